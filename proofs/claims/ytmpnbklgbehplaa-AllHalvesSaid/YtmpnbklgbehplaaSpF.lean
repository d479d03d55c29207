/- Plain facts: models of clauses. No condition. -/
import Derived.Test.YtmpnbklgbehplaaSp8
import Derived.Test.YtmpnbklgbehplaaSpA
import Derived.Test.YtmpnbklgbehplaaSp4
namespace Go.Um
namespace Sp

def tryW (n : Int) (ls : List (List Int)) : Int × Int := if (check n ls).1 ≠ 0 then check n ls else if 16 < n then (2, -1) else (0, 0)

theorem tryW_ok {n : Int} {ls : List (List Int)} (h : (tryW n ls).1 = 0) : (check n ls).1 = 0 ∧ (0 ≤ n ∧ n ≤ 16) ∧ tryW n ls = (0, 0) := by
  unfold tryW at h ⊢
  split at h
  · rename_i h1; exact absurd h h1
  · rename_i h1
    have h1 : (check n ls).1 = 0 := by omega
    rw [if_neg (by omega)]
    have := (check_ok h1).1
    split at h
    · cases h
    · rename_i h2
      rw [if_neg h2]
      exact ⟨h1, by omega, rfl⟩

/-- The models among the first k words. -/
def modsTo (n : Nat) (ls : List (List Int)) (k : Nat) : List Nat := (List.range k).filter (fun (i : Nat) => all (bits n i) ls)
def mods (n : Nat) (ls : List (List Int)) : List Nat := modsTo n ls (2 ^ n)

theorem modsTo_yes {n k : Nat} {ls : List (List Int)} (h : all (bits n k) ls = true) : modsTo n ls (k + 1) = modsTo n ls k ++ [k] := by
  unfold modsTo
  rw [List.range_succ, List.filter_append]
  simp [h]
theorem modsTo_no {n k : Nat} {ls : List (List Int)} (h : all (bits n k) ls = false) : modsTo n ls (k + 1) = modsTo n ls k := by
  unfold modsTo
  rw [List.range_succ, List.filter_append]
  simp [h]
theorem modsTo_len (n k : Nat) (ls : List (List Int)) : (modsTo n ls k).length ≤ k := by
  have := List.length_filter_le (fun (i : Nat) => all (bits n i) ls) (List.range k)
  rw [List.length_range] at this
  exact this
theorem mods_len (n : Nat) (ls : List (List Int)) : (mods n ls).length ≤ 2 ^ n := modsTo_len ..

def count (n : Int) (ls : List (List Int)) : Int × (Int × Int) := if (tryW n ls).1 ≠ 0 then (0, tryW n ls) else (((mods n.toNat ls).length : Int), (0, 0))

def ofN (l : List Nat) : List Int := l.map Int.ofNat

theorem ofN_len (l : List Nat) : (ofN l).length = l.length := by simp [ofN]
theorem ofN_app (l : List Nat) (k : Nat) : ofN (l ++ [k]) = ofN l ++ [(k : Int)] := by simp [ofN]

theorem count_pair : count 2 [[1, 2], [-1]] = (1, 0, 0) := by decide +kernel

def tooM (n : Int) (ls : List (List Int)) : Bool := decide ((12 < n ∧ n ≤ 16) ∨ (60 < (ls.length : Int) ∧ (ls.length : Int) ≤ 400))

theorem count_ok {n : Int} {ls : List (List Int)} (h : (count n ls).2.1 = 0) : (tryW n ls).1 = 0 ∧ (0 ≤ n ∧ n ≤ 16) ∧ ls.length ≤ 400 ∧ count n ls = (((mods n.toNat ls).length : Int), (0, 0)) := by
  have h1 : (tryW n ls).1 = 0 := by
    unfold count at h
    split at h
    · exact h
    · rename_i h2; simpa using h2
  have h2 := tryW_ok h1
  exact ⟨h1, h2.2.1, (check_ok h2.1).2.1, by rw [count, if_neg (fun h => h h1)]⟩
theorem count_bad {n : Int} {ls : List (List Int)} (h : (count n ls).2.1 ≠ 0) : (count n ls).1 = 0 := by
  unfold count at h ⊢
  split at h
  · rename_i h2; rw [if_pos h2]
  · exact absurd rfl h

theorem filter_halves {α : Type} (p q : α → Bool) : ∀ l : List α, (l.filter (fun x => p x && q x)).length + (l.filter (fun x => p x && !q x)).length = (l.filter p).length
  | [] => rfl
  | x :: l => by
    have ih := filter_halves p q l
    cases hp : p x <;> cases hq : q x <;> simp [hp, hq] <;> omega

theorem all_snoc (a : List Bool) (ls : List (List Int)) (v : Int) : all a (ls ++ [[v]]) = (all a ls && lit a v) := by
  simp [all, sat, List.all_append]

theorem wrong_single {n v : Int} : (wrong n [v]).1 = 0 ↔ v ≠ 0 ∧ -n ≤ v ∧ v ≤ n := by
  rw [wrong_iff]
  simp

theorem check_snoc {n v : Int} {ls : List (List Int)} (h : (check n ls).1 = 0) (hl : ls.length < 400) (hv : v ≠ 0 ∧ -n ≤ v ∧ v ≤ n) : check n (ls ++ [[v]]) = (0, 0) := by
  obtain ⟨h1, h2, h3⟩ := check_ok h
  refine check_of h1 (by simp; omega) (fun l hm => ?_)
  rcases List.mem_append.1 hm with hm | hm
  · exact h3 l hm
  · rw [List.mem_singleton.1 hm]
    exact ⟨by simp, wrong_single.2 hv⟩

theorem tryW_snoc {n v : Int} {ls : List (List Int)} (h : (tryW n ls).1 = 0) (hl : ls.length < 400) (hv : v ≠ 0 ∧ -n ≤ v ∧ v ≤ n) : tryW n (ls ++ [[v]]) = (0, 0) := by
  obtain ⟨h1, h2, _⟩ := tryW_ok h
  rw [tryW, check_snoc h1 hl hv, if_neg (by simp), if_neg (by omega)]

theorem count_snoc {n v : Int} {ls : List (List Int)} (h : (tryW n ls).1 = 0) (hl : ls.length < 400) (hv : v ≠ 0 ∧ -n ≤ v ∧ v ≤ n) : count n (ls ++ [[v]]) = (((mods n.toNat (ls ++ [[v]])).length : Int), (0, 0)) := by
  rw [count, tryW_snoc h hl hv, if_neg (by simp)]

theorem count_out {n v : Int} {ls : List (List Int)} (hv : ¬ (v ≠ 0 ∧ -n ≤ v ∧ v ≤ n)) : (count n (ls ++ [[v]])).2.1 ≠ 0 := by
  intro h
  obtain ⟨h1, _⟩ := count_ok h
  have h2 := (check_ok (tryW_ok h1).1).2.2 [v] (by simp)
  exact hv (wrong_single.1 h2.2)

theorem halves {n v : Int} {ls : List (List Int)} (hv : 1 ≤ v) : (mods n.toNat (ls ++ [[v]])).length + (mods n.toNat (ls ++ [[-v]])).length = (mods n.toNat ls).length := by
  unfold mods modsTo
  rw [← filter_halves (fun (i : Nat) => all (bits n.toNat i) ls) (fun (i : Nat) => lit (bits n.toNat i) v)]
  congr 2
  · congr 1
    funext i
    exact all_snoc _ _ _
  · congr 1
    funext i
    rw [all_snoc, lit_neg (by omega)]

end Sp
end Go.Um
