/- Plain laws: some assignment, and yes. No program in sight. No condition. -/
import Derived.Test.YtpjenbbalengoaaSq5
namespace Go.Um
namespace Sp

theorem bitsV_succ (m : Nat) (w : Int) : bits (m + 1) w = decide (w / 2 ^ m % 2 = 1) :: bits m w := by
  unfold bits
  rw [List.range_succ_eq_map, List.map_cons, List.map_map]
  congr 1
  refine List.map_congr_left fun i hi => ?_
  have := List.mem_range.1 hi
  simp only [Function.comp_apply]
  rw [show m + 1 - 1 - (i + 1) = m - 1 - i by omega]
theorem bitsV_mod (m : Nat) (w k : Int) : bits m (w + 2 ^ m * k) = bits m w := by
  unfold bits
  refine List.map_congr_left fun i hi => ?_
  have h1 := List.mem_range.1 hi
  have e : (2 : Int) ^ m * k = 2 ^ (m - 1 - i) * (2 * (2 ^ i * k)) := by
    have h2 : (2 : Int) ^ m = 2 ^ (m - 1 - i) * (2 * 2 ^ i) := by
      rw [show m = (m - 1 - i) + (1 + i) by omega, Int.pow_add, Int.pow_add]
      rw [show m - 1 - i + (1 + i) - 1 - i = m - 1 - i by omega]
      rfl
    rw [h2, Int.mul_assoc, Int.mul_assoc]
  have hp : (2 : Int) ^ (m - 1 - i) ≠ 0 := Int.ne_of_gt (Int.pow_pos (by decide))
  rw [e, Int.add_mul_ediv_left _ _ hp]
  congr 1
  rw [Int.add_mul_emod_self_left]
theorem word_of : ∀ a : List Bool, ∃ w : Nat, w < 2 ^ a.length ∧ bits a.length w = a
  | [] => ⟨0, by simp, by simp [bits]⟩
  | b :: a => by
    obtain ⟨w, h1, h2⟩ := word_of a
    have hw : (w : Int) / 2 ^ a.length = 0 := by
      refine Int.ediv_eq_zero_of_lt (by omega) ?_
      have h3 : ((2 ^ a.length : Nat) : Int) = 2 ^ a.length := by rw [Int.natCast_pow]; rfl
      omega
    cases b with
    | false =>
      refine ⟨w, by rw [List.length_cons, Nat.pow_succ]; omega, ?_⟩
      rw [List.length_cons, bitsV_succ, h2, hw]
      rfl
    | true =>
      refine ⟨w + 2 ^ a.length, by rw [List.length_cons, Nat.pow_succ]; omega, ?_⟩
      have e : ((w + 2 ^ a.length : Nat) : Int) = (w : Int) + 2 ^ a.length * 1 := by
        rw [Int.natCast_add, Int.natCast_pow, Int.mul_one]
        rfl
      have hp : (2 : Int) ^ a.length ≠ 0 := Int.ne_of_gt (Int.pow_pos (by decide))
      rw [List.length_cons, bitsV_succ, e, bitsV_mod, h2, Int.add_mul_ediv_left _ _ hp, hw]
      rfl

def someV (n : Nat) (l : List (List Int)) : Int := idx (fun (w : Nat) => all (bits n w) l) (List.range (2 ^ n))
theorem someV_at {n w : Nat} {l : List (List Int)} (hw : w < 2 ^ n) (h : ∀ v : Nat, v < w → all (bits n v) l = false) (h2 : all (bits n w) l = true) : someV n l = w := by
  unfold someV
  refine idx_at (z := 0) (by simpa using hw) (fun y hy => ?_) ?_
  · obtain ⟨j, hj, rfl⟩ := List.getElem_of_mem hy
    rw [List.getElem_take, List.getElem_range]
    exact h j (by simp at hj; omega)
  · have : (List.range (2 ^ n)).getD w 0 = w := by simp [List.getD, hw]
    rw [this]
    exact h2
theorem someV_none {n : Nat} {l : List (List Int)} (h : ∀ v : Nat, v < 2 ^ n → all (bits n v) l = false) : someV n l = -1 := by
  unfold someV
  exact idx_none (fun y hy => h y (List.mem_range.1 hy))
theorem someV_iff {n : Nat} {l : List (List Int)} : 0 ≤ someV n l ↔ ∃ a : List Bool, a.length = n ∧ all a l = true := by
  constructor
  · intro h
    unfold someV at h
    obtain ⟨h1, h2⟩ := idx_mem (p := fun (w : Nat) => all (bits n w) l) (l := List.range (2 ^ n)) 0 (by omega)
    exact ⟨_, bits_length n _, h2⟩
  · rintro ⟨a, rfl, h⟩
    obtain ⟨w, h1, h2⟩ := word_of a
    refine (idxV_le (p := fun (w : Nat) => all (bits a.length w) l) (l := List.range (2 ^ a.length)) (j := w) 0 (by simpa using h1) ?_).1
    have : (List.range (2 ^ a.length)).getD w 0 = w := by simp [List.getD, h1]
    simp only [this, h2]
    exact h

def ones (l : List Int) : List (List Int) := l.map fun x => [x]
theorem all_ones {a : List Bool} {ls : List (List Int)} {l : List Int} : all a (ls ++ ones l) = true ↔ all a ls = true ∧ ∀ x ∈ l, lit a x = true := by
  unfold all ones
  rw [List.all_append, Bool.and_eq_true]
  refine and_congr Iff.rfl ?_
  simp [sat]
theorem ones_step {l : List Int} {i : Nat} (h : i < l.length) : ones (l.take (i + 1)) = ones (l.take i) ++ [(l.drop i).take (i + 1 - i)] := by
  unfold ones
  have e : l.getD i 0 = l[i] := by simp [List.getD, h]
  rw [take_getD l i 0 h, List.map_append, show i + 1 - i = 0 + 1 by omega, List.drop_eq_getElem_cons h, List.take_succ_cons, e]
  rfl
theorem ones_good {m : Nat} {ls : List (List Int)} {asked : List Int} (hf : Fit m ls asked) : ∀ x ∈ ls ++ ones asked, Good m x := by
  intro x hx
  rcases List.mem_append.1 hx with h | h
  · exact (hf.cl x h).1
  · obtain ⟨y, hy, rfl⟩ := List.mem_map.1 h
    intro z hz
    rw [List.mem_singleton.1 hz]
    exact hf.ga y hy
theorem decides {m : Nat} {ls : List (List Int)} {asked : List Int} {A : Ans} (hf : Fit m ls asked) (h : OutY m ls asked A ∨ OutN m ls asked A) : (decide (A.1 = 1) == decide (0 ≤ someV m (ls ++ ones asked))) = true ∧ (A.1 = 1 ∨ A.1 = 2) := by
  rcases h with h | h
  · have h1 : 0 ≤ someV m (ls ++ ones asked) := someV_iff.2 ⟨A.2.1, h.len, all_ones.2 ⟨h.ls, h.asked⟩⟩
    rw [h.st, decide_eq_true h1]
    exact ⟨rfl, .inl rfl⟩
  · have h1 : ¬ 0 ≤ someV m (ls ++ ones asked) := fun h1 => by
      obtain ⟨a, _, h2⟩ := someV_iff.1 h1
      obtain ⟨h3, h4⟩ := all_ones.1 h2
      exact h.none hf h3 (fun x hx => h4 x (h.sub x hx))
    rw [h.st, decide_eq_false h1]
    exact ⟨rfl, .inr rfl⟩
end Sp
end Go.Um
