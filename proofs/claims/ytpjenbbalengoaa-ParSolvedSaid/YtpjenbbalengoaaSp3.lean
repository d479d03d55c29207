/- Plain definitions and laws: numbers of literals. No program in sight. No condition. -/
import Derived.Test.YtpjenbbalengoaaSp2
namespace Go.Um
namespace Sp

theorem pow_ok {m : Nat} (h : m ≤ 60) : (-9223372036854775808 : Int) ≤ 1 * 2 ^ ((m : Int)).toNat ∧ (1 : Int) * 2 ^ ((m : Int)).toNat ≤ 9223372036854775807 := by
  have h1 : (2 : Nat) ^ m ≤ 2 ^ 60 := Nat.pow_le_pow_right (by decide) h
  have h2 : (1 : Int) * 2 ^ ((m : Int)).toNat = ((2 ^ m : Nat) : Int) := by simp
  rw [h2]
  have h3 : (2 : Nat) ^ 60 = 1152921504606846976 := by decide
  generalize 2 ^ m = q at h1
  omega

theorem pow_nat (m : Nat) : (1 : Int) * 2 ^ ((m : Int)).toNat = ((2 ^ m : Nat) : Int) := by simp

def cardWrong (n : Int) (l : List Int) : Int × Int := if n < 0 ∨ 16 < n then (3, 0) else if 8 < l.length then (2, 0) else listed n l
def counted (n : Int) (l : List Int) (k : Int) : Int × Int := if (cardWrong n l).1 ≠ 0 then cardWrong n l else if k < 0 ∨ 8 < k then (3, -1) else (0, 0)

def bit (s : Nat) (i : Nat) : Bool := decide ((s : Int) / 2 ^ i % 2 = 1)
def subTo (l : List Int) (s i : Nat) : List Int := ((List.range i).filter (bit s)).map fun j => l.getD j 0
def sub (l : List Int) (s : Nat) : List Int := subTo l s l.length
def someTo (l : List Int) (k : Int) (s : Nat) : List (List Int) := ((List.range s).map (sub l)).filter fun c => decide ((c.length : Int) = k)
def some (l : List Int) (k : Int) : List (List Int) := someTo l k (2 ^ l.length)

theorem subTo_yes {l : List Int} {s i : Nat} (h : (s : Int) / 2 ^ i % 2 = 1) : subTo l s (i + 1) = subTo l s i ++ [l.getD i 0] := by
  simp [subTo, List.range_succ, bit, h]
theorem subTo_no {l : List Int} {s i : Nat} (h : ¬ (s : Int) / 2 ^ i % 2 = 1) : subTo l s (i + 1) = subTo l s i := by
  simp [subTo, List.range_succ, bit, h]
theorem subTo_len (l : List Int) (s i : Nat) : (subTo l s i).length ≤ i := by
  simp only [subTo, List.length_map]
  exact Nat.le_trans (List.length_filter_le _ _) (by simp)
theorem someTo_yes {l : List Int} {k : Int} {s : Nat} (h : ((sub l s).length : Int) = k) : someTo l k (s + 1) = someTo l k s ++ [sub l s] := by
  simp [someTo, List.range_succ, h]
theorem someTo_no {l : List Int} {k : Int} {s : Nat} (h : ¬ ((sub l s).length : Int) = k) : someTo l k (s + 1) = someTo l k s := by
  simp [someTo, List.range_succ, h]
theorem someTo_len (l : List Int) (k : Int) (s : Nat) : (someTo l k s).length ≤ s := by
  simp only [someTo]
  exact Nat.le_trans (List.length_filter_le _ _) (by simp)

def negs (l : List Int) : List Int := l.map fun x => -x
theorem negs_take (l : List Int) (i : Nat) (h : i < l.length) : negs (l.take (i + 1)) = negs (l.take i) ++ [-(l.getD i 0)] := by
  rw [take_getD l i 0 h, negs, List.map_append]; rfl

def most (n : Int) (l : List Int) (k : Int) : Int × List (List Int) × Int × Int :=
  if (counted n l k).1 ≠ 0 then (0, [], counted n l k) else (n, some (negs l) (k + 1), 0, 0)
def least (n : Int) (l : List Int) (k : Int) : Int × List (List Int) × Int × Int :=
  if (counted n l k).1 ≠ 0 then (0, [], counted n l k) else if k = 0 then (n, [], 0, 0) else if (l.length : Int) < k then (n, [[]], 0, 0) else (n, some l (l.length - k + 1), 0, 0)

def holding (a : List Bool) (l : List Int) : Nat := (l.filter (lit a)).length

def litAt (a : List Bool) (i : Nat) : Int := if a.getD i false = true then (i : Int) + 1 else -(i : Int) - 1
def literals (a : List Bool) : List Int := (List.range a.length).map (litAt a)
def literalsTo (a : List Bool) (i : Nat) : List Int := (List.range i).map (litAt a)
theorem literalsTo_succ (a : List Bool) (i : Nat) : literalsTo a (i + 1) = literalsTo a i ++ [litAt a i] := by simp [literalsTo, List.range_succ]
theorem literalsTo_len (a : List Bool) (i : Nat) : (literalsTo a i).length = i := by simp [literalsTo]
theorem sat_one {a : List Bool} {l : List Int} {i : Nat} (h : i < l.length) : sat a ((l.drop i).take (i + 1 - i)) = lit a (l.getD i 0) := by
  have h1 : l.getD i 0 = l[i] := by simp [List.getD, List.getElem?_eq_getElem h]
  rw [h1, Nat.add_sub_cancel_left, List.drop_eq_getElem_cons h]
  show (lit a l[i] || false) = _
  rw [Bool.or_false]

theorem listed_ok {n : Int} {l : List Int} (h : (listed n l).1 = 0) : ∀ x ∈ l, x ≠ 0 ∧ -n ≤ x ∧ x ≤ n := by
  unfold listed at h
  split at h
  · rename_i h1; exact absurd h h1
  · rename_i h1; exact wrong_ok (by simpa using h1)

theorem card_ok {n : Int} {l : List Int} (h : (cardWrong n l).1 = 0) : 0 ≤ n ∧ n ≤ 16 ∧ l.length ≤ 8 ∧ ∀ x ∈ l, x ≠ 0 ∧ -n ≤ x ∧ x ≤ n := by
  unfold cardWrong at h
  split at h
  · simp at h
  · split at h
    · simp at h
    · exact ⟨by omega, by omega, by omega, listed_ok h⟩

theorem counted_ok {n : Int} {l : List Int} {k : Int} (h : (counted n l k).1 = 0) : (cardWrong n l).1 = 0 ∧ (0 ≤ k ∧ k ≤ 8) ∧ (0 ≤ n ∧ n ≤ 16) ∧ l.length ≤ 8 ∧ ∀ x ∈ l, x ≠ 0 ∧ -n ≤ x ∧ x ≤ n := by
  unfold counted at h
  split at h
  · rename_i h1; exact absurd h h1
  · rename_i h1
    have h1 : (cardWrong n l).1 = 0 := by simpa using h1
    split at h
    · simp at h
    · obtain ⟨a, b, c, d⟩ := card_ok h1
      exact ⟨h1, by omega, by omega, c, d⟩
end Sp
end Go.Um
