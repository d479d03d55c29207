/- Plain functions: what is built, and what the laws of diagrams ask. No program in sight. No condition. -/
import Derived.Test.YtofonmfoificjaaSp9
namespace Go.Um
namespace Sp

abbrev DF := List Cho × Int × Int × Int
def diaBuilt (n : Nat) (t : List Bool) : DF := if 4000 < (grow n [] t 1).1.length then ([], 0, 10, 0) else ((grow n [] t 1).1, (grow n [] t 1).2, 0, 0)
def tryWrong (n : Int) (ls : List (List Int)) : Int × Int := if (check n ls).1 = 0 ∧ 16 < n then (2, -1) else check n ls
def diaOf (n : Int) (ls : List (List Int)) : DF := if (check n ls).1 ≠ 0 then ([], 0, check n ls) else if 16 < n then ([], 0, 2, -1) else diaBuilt n.toNat (dtab (fun a => all a ls) n.toNat)

theorem grow_len : ∀ (m : Nat) (l : List Cho) (t : List Bool) (v : Int), (grow m l t v).1.length + 1 ≤ l.length + 2 ^ m
  | 0, l, t, v => by simp [grow]
  | m + 1, l, t, v => by
    have h1 := grow_len m l (t.take (2 ^ m)) (v + 1)
    have h2 := grow_len m (grow m l (t.take (2 ^ m)) (v + 1)).1 ((t.drop (2 ^ m)).take (t.length - 2 ^ m)) (v + 1)
    have hp : 2 ^ (m + 1) = 2 ^ m + 2 ^ m := by rw [Nat.pow_succ]; omega
    rw [grow_step rfl rfl]
    rcases growJ_cases (grow m (grow m l (t.take (2 ^ m)) (v + 1)).1 ((t.drop (2 ^ m)).take (t.length - 2 ^ m)) (v + 1)).1 v (grow m l (t.take (2 ^ m)) (v + 1)).2 (grow m (grow m l (t.take (2 ^ m)) (v + 1)).1 ((t.drop (2 ^ m)).take (t.length - 2 ^ m)) (v + 1)).2 with ⟨_, h⟩ | ⟨_, i, _, h⟩ | ⟨_, _, h⟩
    · rw [h]; simp only; omega
    · rw [h]; simp only; omega
    · rw [h]; simp only [List.length_append, List.length_singleton]; omega

/-- Of few variables there are never too many choices. -/
theorem built_few {n : Nat} {t : List Bool} (h : n ≤ 8) : diaBuilt n t = ((grow n [] t 1).1, (grow n [] t 1).2, 0, 0) := by
  have h1 := grow_len n [] t 1
  have h2 : 2 ^ n ≤ 256 := Nat.pow_le_pow_right (n := 2) (by decide) h
  simp at h1
  rw [diaBuilt, if_neg (by omega)]

theorem eq_of_getD {α : Type} {a b : List α} {i : Nat} {z : α} (hl : a.length = b.length) (hi : a.length ≤ i) (h : ∀ j, j < i → a.getD j z = b.getD j z) : a = b := by
  apply List.ext_getElem hl
  intro j h1 h2
  have := h j (by omega)
  rw [List.getD_eq_getElem?_getD, List.getD_eq_getElem?_getD, List.getElem?_eq_getElem h1, List.getElem?_eq_getElem h2] at this
  simpa using this

theorem check_good {n : Int} {m : Nat} {ls : List (List Int)} (h : (check n ls).1 = 0) (hm : (m : Int) = n) : ∀ l ∈ ls, Good m l := by
  intro l hl x hx
  have := wrong_ok ((check_ok h).2.2 l hl).2 x hx
  omega

theorem sure_tab : dtab (fun a => all a [[1], [2]]) 2 = [false, false, false, true] := by
  simp [dtab, List.range_succ, bits2, all, sat, lit]
theorem sure_check : check 2 [[1], [2]] = (0, 0) := by
  simp [check, checkFrom, wrong, wrongFrom, dup, Int.max_def]
theorem sure_grow : grow 2 [] [false, false, false, true] 1 = ([(2, 0, 1), (1, 0, 2)], 3) := by decide
theorem sure_of : diaOf 2 [[1], [2]] = ([(2, 0, 1), (1, 0, 2)], 3, 0, 0) := by
  have e : diaBuilt 2 [false, false, false, true] = ([(2, 0, 1), (1, 0, 2)], 3, 0, 0) := by rw [built_few (by decide), sure_grow]
  rw [diaOf, sure_check, if_neg (by decide), if_neg (by decide)]
  show diaBuilt 2 (dtab (fun a => all a [[1], [2]]) 2) = _
  rw [sure_tab, e]

theorem try_ok {n : Int} {ls : List (List Int)} (h : (tryWrong n ls).1 = 0) : tryWrong n ls = (0, 0) ∧ (check n ls).1 = 0 ∧ 0 ≤ n ∧ n ≤ 16 := by
  unfold tryWrong at h ⊢
  split at h
  · cases h
  · rename_i h1
    have := (check_ok h).1
    exact ⟨by rw [if_neg h1, check_zero h], h, this.1, by omega⟩
theorem of_bad {n : Int} {ls : List (List Int)} (h : (tryWrong n ls).1 ≠ 0) : diaOf n ls = ([], 0, tryWrong n ls) := by
  unfold tryWrong at h ⊢
  unfold diaOf
  by_cases h1 : (check n ls).1 = 0
  · by_cases h2 : 16 < n
    · rw [if_neg (fun h => h h1), if_pos h2, if_pos ⟨h1, h2⟩]
    · rw [if_neg (by omega)] at h; exact absurd h1 h
  · rw [if_pos h1, if_neg (fun h => h1 h.1)]
theorem of_good {m : Nat} {ls : List (List Int)} (h : (tryWrong m ls).1 = 0) (h8 : m ≤ 8) : diaOf m ls = ((grow m [] (dtab (fun a => all a ls) m) 1).1, (grow m [] (dtab (fun a => all a ls) m) 1).2, 0, 0) := by
  have ho := try_ok h
  rw [diaOf, if_neg (fun hh => hh ho.2.1), if_neg (by omega), Int.toNat_natCast, built_few h8]
end Sp
end Go.Um
