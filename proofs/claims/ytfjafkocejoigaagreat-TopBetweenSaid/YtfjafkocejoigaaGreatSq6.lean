/- Plain laws: some assignment, and yes. No program in sight. No condition. -/
import Derived.Test.YtfjafkocejoigaaGreatSq5
namespace Go.Um
namespace Sp

theorem bitsV_succ (m : Nat) (w : Int) : bits (m + 1) w = decide (w / 2 ^ m % 2 = 1) :: bits m w := by
  unfold bits
  rw [List.range_succ_eq_map, List.map_cons, List.map_map]
  congr 1
  refine List.map_congr_left fun i hi => ?_
  have := List.mem_range.1 hi
  simp only [Function.comp_apply]
  rw [show m + 1 - 1 - (i + 1) = m - 1 - i by omega]
theorem bitsV_mod (m : Nat) (w k : Int) : bits m (w + 2 ^ m * k) = bits m w := by
  unfold bits
  refine List.map_congr_left fun i hi => ?_
  have h1 := List.mem_range.1 hi
  have e : (2 : Int) ^ m * k = 2 ^ (m - 1 - i) * (2 * (2 ^ i * k)) := by
    have h2 : (2 : Int) ^ m = 2 ^ (m - 1 - i) * (2 * 2 ^ i) := by
      rw [show m = (m - 1 - i) + (1 + i) by omega, Int.pow_add, Int.pow_add]
      rw [show m - 1 - i + (1 + i) - 1 - i = m - 1 - i by omega]
      rfl
    rw [h2, Int.mul_assoc, Int.mul_assoc]
  have hp : (2 : Int) ^ (m - 1 - i) ≠ 0 := Int.ne_of_gt (Int.pow_pos (by decide))
  rw [e, Int.add_mul_ediv_left _ _ hp]
  congr 1
  rw [Int.add_mul_emod_self_left]
theorem word_of : ∀ a : List Bool, ∃ w : Nat, w < 2 ^ a.length ∧ bits a.length w = a
  | [] => ⟨0, by simp, by simp [bits]⟩
  | b :: a => by
    obtain ⟨w, h1, h2⟩ := word_of a
    have hw : (w : Int) / 2 ^ a.length = 0 := by
      refine Int.ediv_eq_zero_of_lt (by omega) ?_
      have h3 : ((2 ^ a.length : Nat) : Int) = 2 ^ a.length := by rw [Int.natCast_pow]; rfl
      omega
    cases b with
    | false =>
      refine ⟨w, by rw [List.length_cons, Nat.pow_succ]; omega, ?_⟩
      rw [List.length_cons, bitsV_succ, h2, hw]
      rfl
    | true =>
      refine ⟨w + 2 ^ a.length, by rw [List.length_cons, Nat.pow_succ]; omega, ?_⟩
      have e : ((w + 2 ^ a.length : Nat) : Int) = (w : Int) + 2 ^ a.length * 1 := by
        rw [Int.natCast_add, Int.natCast_pow, Int.mul_one]
        rfl
      have hp : (2 : Int) ^ a.length ≠ 0 := Int.ne_of_gt (Int.pow_pos (by decide))
      rw [List.length_cons, bitsV_succ, e, bitsV_mod, h2, Int.add_mul_ediv_left _ _ hp, hw]
      rfl

def someV (n : Nat) (l : List (List Int)) : Int := idx (fun (w : Nat) => all (bits n w) l) (List.range (2 ^ n))
def ones (l : List Int) : List (List Int) := l.map fun x => [x]
end Sp
end Go.Um
