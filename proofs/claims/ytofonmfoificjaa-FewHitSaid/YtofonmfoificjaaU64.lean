/- Operations on words of 64 bits. No condition. -/
import Derived.Test.YtofonmfoificjaaBit
import Derived.Test.YtofonmfoificjaaAri
namespace Go.Um
open Go Go.RowKit
abbrev dw (n : Int) : D := .int .u64 n
abbrev wds (l : List Int) : D := .list 1 dw 0 l
abbrev wdss (l : List (List Int)) : D := .list 1 wds [] l
section
variable {P : Program} {s : St} {o : Oper} {x y : Operand} {T T' : TypeId}

theorem ofU_toNat {a : Nat} (h : a < 18446744073709551616) : (BitVec.ofInt 64 (a : Int)).toNat = a := by
  rw [BitVec.toNat_ofInt]
  omega
theorem p_orU {a b : Nat} (ho : o.op = .binOp .or T x y T') (hx : Sees (ev s x) (.val (.int .u64 (a : Int)))) (hy : Sees (ev s y) (.val (.int .u64 (b : Int)))) (ha : a < 18446744073709551616) (hb : b < 18446744073709551616) : PStep P o (kx x ++ kx y) s (.val (.int .u64 ((a ||| b : Nat) : Int))) := by
  intro X t a' w β ν hk hr
  refine ⟨rfl, .int .u64 ((a ||| b : Nat) : Int), ?_, mk_int _ _ _⟩
  have h : IntKind.u64.wrap (((BitVec.ofInt 64 (a : Int)) ||| (BitVec.ofInt 64 (b : Int))).toNat : Int) = ((a ||| b : Nat) : Int) := by
    rw [BitVec.toNat_or, ofU_toNat ha, ofU_toNat hb]
    have := Nat.or_lt_two_pow (n := 64) ha hb
    rw [IntWalk.u64_in _ (by omega)]
  simp [execOp, ho, hr.int (kl hk) hx, hr.int (kr hk) hy, eqGuard, binOp, Op.intBits]
  exact h
theorem p_andU {a b : Nat} (ho : o.op = .binOp .and T x y T') (hx : Sees (ev s x) (.val (.int .u64 (a : Int)))) (hy : Sees (ev s y) (.val (.int .u64 (b : Int)))) (ha : a < 18446744073709551616) (hb : b < 18446744073709551616) : PStep P o (kx x ++ kx y) s (.val (.int .u64 ((a &&& b : Nat) : Int))) := by
  intro X t a' w β ν hk hr
  refine ⟨rfl, .int .u64 ((a &&& b : Nat) : Int), ?_, mk_int _ _ _⟩
  have h : IntKind.u64.wrap (((BitVec.ofInt 64 (a : Int)) &&& (BitVec.ofInt 64 (b : Int))).toNat : Int) = ((a &&& b : Nat) : Int) := by
    rw [BitVec.toNat_and, ofU_toNat ha, ofU_toNat hb]
    have : a &&& b ≤ a := Nat.and_le_left
    rw [IntWalk.u64_in _ (by omega)]
  simp [execOp, ho, hr.int (kl hk) hx, hr.int (kr hk) hy, eqGuard, binOp, Op.intBits]
  exact h
theorem p_shlW {k' : IntKind} {m n : Int} (ho : o.op = .binOp .shl T x y T') (hx : Sees (ev s x) (.val (.int .u64 m))) (hy : Sees (ev s y) (.val (.int k' n))) (h0 : 0 ≤ n) (h1 : n ≤ 63) (h : 0 ≤ m * 2 ^ n.toNat ∧ m * 2 ^ n.toNat ≤ 18446744073709551615) :
    PStep P o (kx x ++ kx y) s (.val (.int .u64 (m * 2 ^ n.toNat))) := by
  intro X t a w β ν hk hr
  refine ⟨rfl, .int .u64 (m * 2 ^ n.toNat), ?_, mk_int _ _ _⟩
  have e : min n.toNat IntKind.u64.bits = n.toNat := by simp only [IntKind.bits]; omega
  have h9 : ¬ n < 0 := by omega
  simp [execOp, ho, hr.int (kl hk) hx, hr.int (kr hk) hy, eqGuard, binOp, Op.shift, h9, e, IntWalk.u64_in _ h]
/-- '1 << n' as a word. -/
theorem p_shlU {k' : IntKind} {n : Nat} (ho : o.op = .binOp .shl T x y T') (hx : Sees (ev s x) (.val (.int .u64 1))) (hy : Sees (ev s y) (.val (.int k' (n : Int)))) (h1 : n ≤ 63) : PStep P o (kx x ++ kx y) s (.val (.int .u64 ((2 ^ n : Nat) : Int))) := by
  have hp : (2 : Nat) ^ n ≤ 2 ^ 63 := Nat.pow_le_pow_right (by decide) h1
  have h2 : (2 : Nat) ^ 63 = 9223372036854775808 := rfl
  have e2 : (1 : Int) * 2 ^ ((n : Int)).toNat = ((2 ^ n : Nat) : Int) := by simp
  obtain ⟨q, hq⟩ : ∃ q : Nat, 2 ^ n = q := ⟨_, rfl⟩
  rw [hq] at hp e2 ⊢
  rw [h2] at hp
  have := p_shlW (P := P) (m := 1) (n := (n : Int)) ho hx hy (by omega) (by omega) (e2.symm ▸ ⟨by omega, by omega⟩)
  rwa [e2] at this
/-- A difference of words. -/
theorem p_subU {a b : Int} (ho : o.op = .binOp .sub T x y T') (hx : Sees (ev s x) (.val (.int .u64 a))) (hy : Sees (ev s y) (.val (.int .u64 b))) (h : 0 ≤ a - b ∧ a - b ≤ 18446744073709551615) : PStep P o (kx x ++ kx y) s (.val (.int .u64 (a - b))) := by
  have := p_subW (P := P) ho hx hy
  rwa [IntWalk.u64_in _ h] at this
/-- 'and' and 'and not' of counts. -/
theorem p_andN {a b : Nat} (ho : o.op = .binOp .and T x y T') (hx : Sees (ev s x) (.val (.int .i64 (a : Int)))) (hy : Sees (ev s y) (.val (.int .i64 (b : Int)))) (ha : a < 2 ^ 62) (hb : b < 2 ^ 62) : PStep P o (kx x ++ kx y) s (.val (.int .i64 ((a &&& b : Nat) : Int))) := by
  intro X t a' w β ν hk hr
  refine ⟨rfl, .int .i64 ((a &&& b : Nat) : Int), ?_, mk_int _ _ _⟩
  have h : IntKind.i64.wrap (((BitVec.ofInt 64 (a : Int)) &&& (BitVec.ofInt 64 (b : Int))).toNat : Int) = ((a &&& b : Nat) : Int) := by
    rw [BitVec.toNat_and, ofInt_toNat ha, ofInt_toNat hb]
    have : a &&& b ≤ a := Nat.and_le_left
    simp only [Nat.reducePow] at ha
    rw [IntWalk.i64_in _ (by omega)]
  simp [execOp, ho, hr.int (kl hk) hx, hr.int (kr hk) hy, eqGuard, binOp, Op.intBits]
  exact h
theorem andNot_xor (a b : BitVec 64) : a &&& ~~~b = a ^^^ (a &&& b) := by
  ext i hi
  simp
  cases a[i] <;> cases b[i] <;> rfl
theorem p_andNotN {a b : Nat} (ho : o.op = .binOp .andNot T x y T') (hx : Sees (ev s x) (.val (.int .i64 (a : Int)))) (hy : Sees (ev s y) (.val (.int .i64 (b : Int)))) (ha : a < 2 ^ 62) (hb : b < 2 ^ 62) : PStep P o (kx x ++ kx y) s (.val (.int .i64 ((a ^^^ (a &&& b) : Nat) : Int))) := by
  intro X t a' w β ν hk hr
  refine ⟨rfl, .int .i64 ((a ^^^ (a &&& b) : Nat) : Int), ?_, mk_int _ _ _⟩
  have h : IntKind.i64.wrap (((BitVec.ofInt 64 (a : Int)) &&& ~~~(BitVec.ofInt 64 (b : Int))).toNat : Int) = ((a ^^^ (a &&& b) : Nat) : Int) := by
    rw [andNot_xor, BitVec.toNat_xor, BitVec.toNat_and, ofInt_toNat ha, ofInt_toNat hb]
    have h1 : a &&& b ≤ a := Nat.and_le_left
    have := Nat.xor_lt_two_pow ha (Nat.lt_of_le_of_lt h1 ha)
    simp only [Nat.reducePow] at this
    rw [IntWalk.i64_in _ (by omega)]
  simp [-BitVec.toNat_and, -BitVec.toNat_not, execOp, ho, hr.int (kl hk) hx, hr.int (kr hk) hy, eqGuard, binOp, Op.intBits]
  exact h
/-- '1 << n' as a count. -/
theorem p_shlN {k' : IntKind} {n : Nat} (ho : o.op = .binOp .shl T x y T') (hx : Sees (ev s x) (.val (.int .i64 1))) (hy : Sees (ev s y) (.val (.int k' (n : Int)))) (h1 : n ≤ 61) : PStep P o (kx x ++ kx y) s (.val (.int .i64 ((2 ^ n : Nat) : Int))) := by
  have hp : (2 : Nat) ^ n ≤ 2 ^ 61 := Nat.pow_le_pow_right (by decide) h1
  have h2 : (2 : Nat) ^ 61 = 2305843009213693952 := rfl
  have e2 : (1 : Int) * 2 ^ ((n : Int)).toNat = ((2 ^ n : Nat) : Int) := by simp
  obtain ⟨q, hq⟩ : ∃ q : Nat, 2 ^ n = q := ⟨_, rfl⟩
  rw [hq] at hp e2 ⊢
  rw [h2] at hp
  have := p_shl (P := P) (m := 1) (n := (n : Int)) ho hx hy (by omega) (by omega) (e2.symm ▸ ⟨by omega, by omega⟩)
  rwa [e2] at this
theorem sees_i {a : AV} {k : IntKind} {m n : Int} (h : Sees a (.val (.int k m))) (e : m = n) : Sees a (.val (.int k n)) := e ▸ h
end
end Go.Um
