/- Plain laws: literals that must be. No program in sight. No condition. -/
import Derived.Test.YtpjenbbalengoaaSq6
namespace Go.Um
namespace Sp

def prF (ls : List (List Int)) (x : Int) : Bool := decide (0 ≤ (on ls ([x].map fun y => -y) (List.replicate ([x].map fun y => -y).length (-1))).2.2)
def prIn (ls : List (List Int)) (v : Int) (j : Nat) : List Int := ([v, -v].take j).filter (prF ls)
def prTo (ls : List (List Int)) : Nat → List Int
  | 0 => []
  | i + 1 => prTo ls i ++ prIn ls ((i : Int) + 1) 2
theorem prIn_yes {ls : List (List Int)} {v : Int} {j : Nat} (hj : j < 2) (h : prF ls ([v, -v].getD j 0) = true) : prIn ls v (j + 1) = prIn ls v j ++ [[v, -v].getD j 0] := by
  unfold prIn
  rw [take_getD [v, -v] j 0 hj, List.filter_append, List.filter_cons_of_pos h, List.filter_nil]
theorem prIn_no {ls : List (List Int)} {v : Int} {j : Nat} (hj : j < 2) (h : prF ls ([v, -v].getD j 0) = false) : prIn ls v (j + 1) = prIn ls v j := by
  unfold prIn
  rw [take_getD [v, -v] j 0 hj, List.filter_append, List.filter_cons_of_neg (by rw [h]; decide), List.filter_nil, List.append_nil]
theorem prIn_len (ls : List (List Int)) (v : Int) (j : Nat) : (prIn ls v j).length ≤ 2 := by
  have h1 : (prIn ls v j).length ≤ ([v, -v].take j).length := List.length_filter_le _ _
  have h2 : ([v, -v].take j).length ≤ [v, -v].length := List.length_take_le' _ _
  simp only [List.length_cons, List.length_nil] at h2
  omega
theorem prTo_len (ls : List (List Int)) : ∀ i, (prTo ls i).length ≤ 2 * i
  | 0 => by simp [prTo]
  | i + 1 => by
    have h1 := prTo_len ls i
    have h2 := prIn_len ls ((i : Int) + 1) 2
    rw [prTo, List.length_append]
    omega
theorem prTo_mem {ls : List (List Int)} {x : Int} : ∀ {i : Nat}, x ∈ prTo ls i → (x ≠ 0 ∧ -(i : Int) ≤ x ∧ x ≤ i) ∧ prF ls x = true
  | 0, h => by cases h
  | i + 1, h => by
    rw [prTo] at h
    rcases List.mem_append.1 h with h1 | h1
    · have h2 := prTo_mem h1
      refine ⟨?_, h2.2⟩
      have := h2.1
      omega
    · unfold prIn at h1
      obtain ⟨h2, h3⟩ := List.mem_filter.1 h1
      have h4 : x = (i : Int) + 1 ∨ x = -((i : Int) + 1) := by simpa using h2
      refine ⟨?_, h3⟩
      omega
def prOf (n : Int) (ls : List (List Int)) : List Int := if (check n ls).1 = 0 then prTo ls n.toNat else []
theorem prF_sound {ls : List (List Int)} (hz : Nz ls) {x : Int} (hx : x ≠ 0) (h : prF ls x = true) {a : List Bool} (ha : all a ls = true) : sat a [x] = true :=
  falls_sound hz (fun y hy => by rw [List.mem_singleton.1 hy]; exact hx) (of_decide_eq_true h) ha
theorem fit_room {m : Nat} {ls : List (List Int)} (h : (check m ls).1 = 0) : (∀ c ∈ ls, Cl c ∧ Fine c) ∧ ls.flatten.length ≤ 100000 ∧ ls.length ≤ 400 ∧ m ≤ 120 := by
  obtain ⟨h1, h2, h3⟩ := check_ok h
  refine ⟨fun c hc => ⟨cl_of (h3 c hc).2, fun x hx => ?_⟩, ?_, h2, by omega⟩
  · have := wrong_ok (h3 c hc).2 x hx
    omega
  · have := flat_len (b := 24) ls (fun c hc => (h3 c hc).1)
    omega
theorem check_of_beside {n : Int} {ls : List (List Int)} {l : List Int} (h : (beside n ls l).1 = 0) : (check n ls).1 = 0 := by
  unfold beside at h
  by_cases h1 : (check n ls).1 = 0
  · exact h1
  · rw [if_neg h1] at h; exact absurd h h1
theorem slice_one {l : List Int} {i : Nat} (h : i < l.length) : (l.drop i).take (i + 1 - i) = [l.getD i 0] := by
  have e : l.getD i 0 = l[i] := by simp [List.getD, h]
  rw [show i + 1 - i = 0 + 1 by omega, List.drop_eq_getElem_cons h, List.take_succ_cons, e]
  rfl
end Sp
end Go.Um
