/- Plain facts: models of clauses. No condition. -/
import Derived.Test.YtofonmfoificjaaSp8
import Derived.Test.YtofonmfoificjaaSpA
import Derived.Test.YtofonmfoificjaaSp4
namespace Go.Um
namespace Sp

def tryW (n : Int) (ls : List (List Int)) : Int × Int := if (check n ls).1 ≠ 0 then check n ls else if 16 < n then (2, -1) else (0, 0)

theorem tryW_ok {n : Int} {ls : List (List Int)} (h : (tryW n ls).1 = 0) : (check n ls).1 = 0 ∧ (0 ≤ n ∧ n ≤ 16) ∧ tryW n ls = (0, 0) := by
  unfold tryW at h ⊢
  split at h
  · rename_i h1; exact absurd h h1
  · rename_i h1
    have h1 : (check n ls).1 = 0 := by omega
    rw [if_neg (by omega)]
    have := (check_ok h1).1
    split at h
    · cases h
    · rename_i h2
      rw [if_neg h2]
      exact ⟨h1, by omega, rfl⟩

/-- The models among the first k words. -/
def modsTo (n : Nat) (ls : List (List Int)) (k : Nat) : List Nat := (List.range k).filter (fun (i : Nat) => all (bits n i) ls)
def mods (n : Nat) (ls : List (List Int)) : List Nat := modsTo n ls (2 ^ n)

theorem modsTo_yes {n k : Nat} {ls : List (List Int)} (h : all (bits n k) ls = true) : modsTo n ls (k + 1) = modsTo n ls k ++ [k] := by
  unfold modsTo
  rw [List.range_succ, List.filter_append]
  simp [h]
theorem modsTo_no {n k : Nat} {ls : List (List Int)} (h : all (bits n k) ls = false) : modsTo n ls (k + 1) = modsTo n ls k := by
  unfold modsTo
  rw [List.range_succ, List.filter_append]
  simp [h]
theorem modsTo_len (n k : Nat) (ls : List (List Int)) : (modsTo n ls k).length ≤ k := by
  have := List.length_filter_le (fun (i : Nat) => all (bits n i) ls) (List.range k)
  rw [List.length_range] at this
  exact this
theorem mods_len (n : Nat) (ls : List (List Int)) : (mods n ls).length ≤ 2 ^ n := modsTo_len ..

def count (n : Int) (ls : List (List Int)) : Int × (Int × Int) := if (tryW n ls).1 ≠ 0 then (0, tryW n ls) else (((mods n.toNat ls).length : Int), (0, 0))

def ofN (l : List Nat) : List Int := l.map Int.ofNat

theorem ofN_len (l : List Nat) : (ofN l).length = l.length := by simp [ofN]
theorem ofN_app (l : List Nat) (k : Nat) : ofN (l ++ [k]) = ofN l ++ [(k : Int)] := by simp [ofN]

theorem count_pair : count 2 [[1, 2], [-1]] = (1, 0, 0) := by decide +kernel

def tooM (n : Int) (ls : List (List Int)) : Bool := decide ((12 < n ∧ n ≤ 16) ∨ (60 < (ls.length : Int) ∧ (ls.length : Int) ≤ 400))

theorem count_ok {n : Int} {ls : List (List Int)} (h : (count n ls).2.1 = 0) : (tryW n ls).1 = 0 ∧ (0 ≤ n ∧ n ≤ 16) ∧ ls.length ≤ 400 ∧ count n ls = (((mods n.toNat ls).length : Int), (0, 0)) := by
  have h1 : (tryW n ls).1 = 0 := by
    unfold count at h
    split at h
    · exact h
    · rename_i h2; simpa using h2
  have h2 := tryW_ok h1
  exact ⟨h1, h2.2.1, (check_ok h2.1).2.1, by rw [count, if_neg (fun h => h h1)]⟩
theorem count_bad {n : Int} {ls : List (List Int)} (h : (count n ls).2.1 ≠ 0) : (count n ls).1 = 0 := by
  unfold count at h ⊢
  split at h
  · rename_i h2; rw [if_pos h2]
  · exact absurd rfl h

theorem filter_halves {α : Type} (p q : α → Bool) : ∀ l : List α, (l.filter (fun x => p x && q x)).length + (l.filter (fun x => p x && !q x)).length = (l.filter p).length
  | [] => rfl
  | x :: l => by
    have ih := filter_halves p q l
    cases hp : p x <;> cases hq : q x <;> simp [hp, hq] <;> omega

theorem all_snoc (a : List Bool) (ls : List (List Int)) (v : Int) : all a (ls ++ [[v]]) = (all a ls && lit a v) := by
  simp [all, sat, List.all_append]

theorem wrong_single {n v : Int} : (wrong n [v]).1 = 0 ↔ v ≠ 0 ∧ -n ≤ v ∧ v ≤ n := by
  rw [wrong_iff]
  simp

theorem check_snoc {n v : Int} {ls : List (List Int)} (h : (check n ls).1 = 0) (hl : ls.length < 400) (hv : v ≠ 0 ∧ -n ≤ v ∧ v ≤ n) : check n (ls ++ [[v]]) = (0, 0) := by
  obtain ⟨h1, h2, h3⟩ := check_ok h
  refine check_of h1 (by simp; omega) (fun l hm => ?_)
  rcases List.mem_append.1 hm with hm | hm
  · exact h3 l hm
  · rw [List.mem_singleton.1 hm]
    exact ⟨by simp, wrong_single.2 hv⟩

theorem tryW_snoc {n v : Int} {ls : List (List Int)} (h : (tryW n ls).1 = 0) (hl : ls.length < 400) (hv : v ≠ 0 ∧ -n ≤ v ∧ v ≤ n) : tryW n (ls ++ [[v]]) = (0, 0) := by
  obtain ⟨h1, h2, _⟩ := tryW_ok h
  rw [tryW, check_snoc h1 hl hv, if_neg (by simp), if_neg (by omega)]

theorem count_snoc {n v : Int} {ls : List (List Int)} (h : (tryW n ls).1 = 0) (hl : ls.length < 400) (hv : v ≠ 0 ∧ -n ≤ v ∧ v ≤ n) : count n (ls ++ [[v]]) = (((mods n.toNat (ls ++ [[v]])).length : Int), (0, 0)) := by
  rw [count, tryW_snoc h hl hv, if_neg (by simp)]

theorem count_out {n v : Int} {ls : List (List Int)} (hv : ¬ (v ≠ 0 ∧ -n ≤ v ∧ v ≤ n)) : (count n (ls ++ [[v]])).2.1 ≠ 0 := by
  intro h
  obtain ⟨h1, _⟩ := count_ok h
  have h2 := (check_ok (tryW_ok h1).1).2.2 [v] (by simp)
  exact hv (wrong_single.1 h2.2)

theorem halves {n v : Int} {ls : List (List Int)} (hv : 1 ≤ v) : (mods n.toNat (ls ++ [[v]])).length + (mods n.toNat (ls ++ [[-v]])).length = (mods n.toNat ls).length := by
  unfold mods modsTo
  rw [← filter_halves (fun (i : Nat) => all (bits n.toNat i) ls) (fun (i : Nat) => lit (bits n.toNat i) v)]
  congr 2
  · congr 1
    funext i
    exact all_snoc _ _ _
  · congr 1
    funext i
    rw [all_snoc, lit_neg (by omega)]

/-! ### The first models -/

def asg (n : Nat) (l : List Nat) : List (List Bool) := l.map fun (i : Nat) => bits n i

theorem asg_app (n : Nat) (l : List Nat) (k : Nat) : asg n (l ++ [k]) = asg n l ++ [bits n k] := by simp [asg]
theorem asg_len (n : Nat) (l : List Nat) : (asg n l).length = l.length := by simp [asg]

theorem modsTo_prefix (n : Nat) (ls : List (List Int)) {k k' : Nat} (h : k ≤ k') : modsTo n ls k <+: modsTo n ls k' := by
  induction h with
  | refl => exact List.prefix_rfl
  | step h ih =>
    rename_i q
    cases hy : all (bits n q) ls
    · rw [modsTo_no hy]; exact ih
    · rw [modsTo_yes hy]; exact ih.trans (List.prefix_append _ _)

theorem modsTo_take {n : Nat} {ls : List (List Int)} {k : Nat} (h : k ≤ 2 ^ n) : (mods n ls).take (modsTo n ls k).length = modsTo n ls k := by
  exact (List.prefix_iff_eq_take.1 (modsTo_prefix n ls h)).symm

theorem len_yes {n k : Nat} {ls : List (List Int)} (h : all (bits n k) ls = true) : (modsTo n ls (k + 1)).length = (modsTo n ls k).length + 1 := by rw [modsTo_yes h]; simp
theorem asg_yes {n k : Nat} {ls : List (List Int)} (h : all (bits n k) ls = true) : asg n (modsTo n ls (k + 1)) = asg n (modsTo n ls k) ++ [bits n k] := by rw [modsTo_yes h, asg_app]
theorem words_no {l : List (List Bool)} {w : List Int} {n i : Nat} (hi : i < l.length) (h : l = w.map (fun x => bits n x)) : l.getD i [] = bits n (w.getD i 0) := by
  subst h
  simp only [List.length_map] at hi
  simp [List.getD, hi]

def models (n : Int) (ls : List (List Int)) (most : Int) : List (List Bool) × (Int × Int) :=
  if (tryW n ls).1 ≠ 0 then ([], tryW n ls) else if most < 0 ∨ 65536 < most then ([], (3, -1)) else (asg n.toNat ((mods n.toNat ls).take most.toNat), (0, 0))

theorem words_go {l : List (List Bool)} {w : List Int} {n : Nat} (h1 : l.length = w.length) (h2 : ∀ j, j < l.length → l.getD j [] = bits n (w.getD j 0)) : l = w.map (fun x => bits n x) := by
  apply List.ext_getElem (by simp [h1])
  intro i hi hi'
  have := h2 i hi
  simp only [List.getD, List.getElem?_eq_getElem hi, Option.getD_some, List.getElem?_eq_getElem (show i < w.length by omega)] at this
  simpa using this

theorem ofN_map (n : Nat) (l : List Nat) : (ofN l).map (fun x => bits n x) = asg n l := by simp [ofN, asg, List.map_map, Function.comp_def]

end Sp
end Go.Um
