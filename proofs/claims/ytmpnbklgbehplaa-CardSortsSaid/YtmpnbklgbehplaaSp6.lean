/- Plain definitions: a sorter of literals. No program in sight. No condition. -/
import Derived.Test.YtmpnbklgbehplaaSp5
namespace Go.Um
namespace Sp

/-- The clauses of the new variable v = before[j] or (x and before[j-1]). -/
def sortCl (x v : Int) (b : List Int) (j : Nat) : List (List Int) :=
  if j < b.length ∧ 0 < j then [[-b.getD j 0, v], [-x, -b.getD (j - 1) 0, v], [b.getD j 0, x, -v], [b.getD j 0, b.getD (j - 1) 0, -v]]
  else if j < b.length then [[-b.getD j 0, v], [-x, v], [b.getD j 0, x, -v]]
  else if 0 < j then [[-x, -b.getD (j - 1) 0, v], [x, -v], [b.getD (j - 1) 0, -v]]
  else [[-x, v], [x, -v]]

def sortIn (x n : Int) (b : List Int) : Nat → List (List Int)
  | 0 => []
  | j + 1 => sortIn x n b j ++ sortCl x (n + j + 1) b j

def news (n : Int) (j : Nat) : List Int := (List.range j).map fun (i : Nat) => n + (i : Int) + 1

/-- The state behind i literals: variables, clauses, outputs. -/
def sortTo (n : Int) (l : List Int) : Nat → Int × List (List Int) × List Int
  | 0 => (n, [], [])
  | i + 1 => ((sortTo n l i).1 + ((i + 1 : Nat) : Int), (sortTo n l i).2.1 ++ sortIn (l.getD i 0) (sortTo n l i).1 (sortTo n l i).2.2 (i + 1), news (sortTo n l i).1 (i + 1))

theorem news_len (n : Int) (j : Nat) : (news n j).length = j := by simp [news]
theorem news_succ (n : Int) (j : Nat) : news n (j + 1) = news n j ++ [n + j + 1] := by simp [news, List.range_succ]
theorem sortTo_len (n : Int) (l : List Int) : ∀ i, (sortTo n l i).2.2.length = i
  | 0 => rfl
  | i + 1 => news_len _ _
theorem sortCl_len (x v : Int) (b : List Int) (j : Nat) : (sortCl x v b j).length ≤ 4 := by
  unfold sortCl
  split
  · simp
  · split
    · simp
    · split <;> simp
theorem sortIn_len (x n : Int) (b : List Int) : ∀ j, (sortIn x n b j).length ≤ 4 * j
  | 0 => Nat.zero_le _
  | j + 1 => by have h1 := sortIn_len x n b j; have h2 := sortCl_len x (n + j + 1) b j; simp only [sortIn, List.length_append]; omega
theorem sort_bnd {n : Int} (l : List Int) (hn : 0 ≤ n ∧ n ≤ 16) : ∀ i, i ≤ 8 → (n ≤ (sortTo n l i).1 ∧ (sortTo n l i).1 ≤ 16 + 9 * (i : Int)) ∧ (sortTo n l i).2.1.length ≤ 36 * i ∧ ∀ y ∈ (sortTo n l i).2.2, 1 ≤ y ∧ y ≤ (sortTo n l i).1
  | 0, _ => ⟨⟨Int.le_refl _, by show n ≤ _; omega⟩, Nat.le_refl _, by simp [sortTo]⟩
  | i + 1, h => by
    obtain ⟨h1, h2, h3⟩ := sort_bnd l hn i (by omega)
    have h4 := sortIn_len (l.getD i 0) (sortTo n l i).1 (sortTo n l i).2.2 (i + 1)
    refine ⟨⟨?_, ?_⟩, ?_, ?_⟩
    · show n ≤ (sortTo n l i).1 + ((i + 1 : Nat) : Int); omega
    · show (sortTo n l i).1 + ((i + 1 : Nat) : Int) ≤ _; omega
    · show ((sortTo n l i).2.1 ++ _).length ≤ _; rw [List.length_append]; omega
    · intro y hy
      obtain ⟨q, hq, e⟩ := List.mem_map.1 (show y ∈ (List.range (i + 1)).map fun (q : Nat) => (sortTo n l i).1 + (q : Int) + 1 from hy)
      rw [List.mem_range] at hq
      show 1 ≤ y ∧ y ≤ (sortTo n l i).1 + ((i + 1 : Nat) : Int)
      omega
def sorted (n : Int) (l : List Int) : Int × List (List Int) × List Int × Int × Int := if (cardWrong n l).1 ≠ 0 then (0, [], [], cardWrong n l) else ((sortTo n l l.length).1, (sortTo n l l.length).2.1, (sortTo n l l.length).2.2, 0, 0)
end Sp
end Go.Um
