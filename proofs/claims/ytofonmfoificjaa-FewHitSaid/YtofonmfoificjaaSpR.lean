/- Plain facts: least sets, one by one; the sets that cannot hold together, by the submasks. No condition. -/
import Derived.Test.YtofonmfoificjaaSpQ
namespace Go.Um
namespace Sp

theorem setL_more {w m : Nat} (hw : w < 2 ^ m) : ∀ d, setL w (m + d) = setL w m
  | 0 => rfl
  | d + 1 => by
    rw [← setL_more hw d]
    exact setL_no (bits_high hw (Nat.le_add_right m d))
theorem setL_60 {w m : Nat} (hw : w < 2 ^ m) (hm : m ≤ 60) : setL w 60 = setL w m := by
  have := setL_more hw (60 - m)
  rwa [show m + (60 - m) = 60 by omega] at this

theorem lti_next {a b : List Int} {i : Nat} (h1 : i < a.length) (h2 : i < b.length) (h : ∀ j, j < i → a.getD j 0 = b.getD j 0) (hne : ¬ a.getD i 0 = b.getD i 0) : ltL lti a b = decide (a.getD i 0 < b.getD i 0) := by
  rw [lti_cmp, cmpL_next h1 h2 (cmpI_same h) (fun h3 => hne (cmpI_abs.2.1 h3))]
  exact decide_eq_decide.2 cmpI_abs.1
theorem lti_end {a b : List Int} {i : Nat} (h1 : i ≤ a.length) (h2 : i ≤ b.length) (h : ∀ j, j < i → a.getD j 0 = b.getD j 0) (hl : i = a.length ∨ i = b.length) : ltL lti a b = decide (a.length < b.length) := by
  rw [lti_cmp]
  by_cases h3 : a.length ≤ b.length
  · obtain rfl : i = a.length := by omega
    rw [cmpL_end h3 (cmpI_same h)]
    by_cases h4 : a.length < b.length
    · rw [if_pos h4, decide_eq_true (by decide), decide_eq_true h4]
    · rw [if_neg h4, decide_eq_false (by decide), decide_eq_false h4]
  · rw [cmpL_more (i := i) (by omega) (by omega) (cmpI_same h), decide_eq_false (by decide), decide_eq_false (by omega)]

theorem leastR_zero (yes : Nat → Bool) (w : Nat) : leastR yes w 0 = yes w := by simp [leastR]
theorem leastR_bad {yes : Nat → Bool} {w o : Nat} (h : o &&& w = o ∧ yes o = true) : leastR yes w (o + 1) = false := by
  unfold leastR
  rw [Bool.and_eq_false_iff]
  right
  rw [List.all_eq_false]
  exact ⟨o, List.mem_range.2 (by omega), by rw [decide_eq_true h.1, h.2]; decide⟩
theorem leastR_mono {yes : Nat → Bool} {w o p : Nat} (hop : o ≤ p) (h : leastR yes w o = false) : leastR yes w p = false := by
  rw [Bool.eq_false_iff] at h ⊢
  refine fun h2 => h ?_
  unfold leastR at h2 ⊢
  rw [Bool.and_eq_true, List.all_eq_true] at h2 ⊢
  exact ⟨h2.1, fun x hx => h2.2 x (List.mem_range.2 (by have := List.mem_range.1 hx; omega))⟩
theorem nubL_nil (yes : Nat → Bool) (m : Nat) : nubL (listsR yes m 0) = [] := by
  simp [nubL, listsR, nub, compact, cmpTo]
theorem nubL_len (yes : Nat → Bool) (m k : Nat) : (nubL (listsR yes m k)).length ≤ k := Nat.le_trans (nub_len _ _ _) (listsR_len ..)
theorem least_new {yes : Nat → Bool} {m w : Nat} (hw : w < 2 ^ m) : setL w m ∉ listsR yes m w := by
  intro h
  unfold listsR at h
  obtain ⟨v, h1, h2⟩ := List.mem_map.1 h
  have h3 := List.mem_range.1 (List.mem_filter.1 h1).1
  have := setL_inj (by omega) hw h2
  omega
theorem least_put {yes : Nat → Bool} {m w k : Nat} (hw : w < 2 ^ m) (hy : leastR yes w w = true) (hk : k ≤ (nubL (listsR yes m w)).length) (h1 : ∀ y ∈ (nubL (listsR yes m w)).take k, ltL lti y (setL w m) = true)
    (h2 : k < (nubL (listsR yes m w)).length → ltL lti ((nubL (listsR yes m w)).getD k []) (setL w m) = false) :
    nubL (listsR yes m (w + 1)) = (nubL (listsR yes m w)).take k ++ [setL w m] ++ (nubL (listsR yes m w)).drop k := by
  rw [listsR_yes hy]
  exact nub_put lt_int.list hk h1 h2 (fun h3 e => least_new hw (nub_mem.1 (e ▸ getD_mem _ k [] h3)))

theorem mask_yes {q : Nat → Bool} {i : Nat} (h : q i = true) : mask q (i + 1) = mask q i + 2 ^ i := by
  rw [mask, if_pos h]
  have := Nat.two_pow_add_eq_or_of_lt (mask_lt q i) 1
  rw [Nat.mul_one] at this
  rw [Nat.or_comm, ← this, Nat.add_comm]
theorem mask_no {q : Nat → Bool} {i : Nat} (h : q i = false) : mask q (i + 1) = mask q i := by rw [mask, if_neg (by rw [h]; decide)]
def cantA (n : Nat) (ls : List (List Int)) : List Bool := (List.range (2 ^ ls.length)).map (cannot n ls)
theorem cantL_end (n : Nat) (ls : List (List Int)) : cantL n ls (2 ^ n) (fun _ => true) = cantA n ls := by
  unfold cantL cantA
  refine List.map_congr_left (fun s hs => ?_)
  rw [cantTo_end (List.mem_range.1 hs), Bool.and_true]
theorem cantA_at {n w : Nat} {ls : List (List Int)} (hw : w < 2 ^ ls.length) : (cantA n ls).getD w false = cannot n ls w := by
  simp [cantA, List.getD, hw]
theorem cantA_len (n : Nat) (ls : List (List Int)) : (cantA n ls).length = 2 ^ ls.length := by simp [cantA]
def mendA (n : Nat) (ls : List (List Int)) (k : Nat) : List Bool := (List.range k).map (canDo n ls)
theorem mendA_at {n w k : Nat} {ls : List (List Int)} (hw : w < k) : (mendA n ls k).getD w false = canDo n ls w := by
  simp [mendA, List.getD, hw]
theorem mendA_len (n : Nat) (ls : List (List Int)) (k : Nat) : (mendA n ls k).length = k := by simp [mendA]
theorem canDo_not {n w : Nat} {ls : List (List Int)} (hw : w < 2 ^ ls.length) : canDo n ls w = !cannot n ls (2 ^ ls.length - 1 - w) := by
  have e : ∀ i, i < ls.length → (2 ^ ls.length - 1 - w).testBit i = !w.testBit i := fun i hi => by
    rw [show 2 ^ ls.length - 1 - w = 2 ^ ls.length - (w + 1) by omega, Nat.testBit_two_pow_sub_succ hw, decide_eq_true hi, Bool.true_and]
  unfold canDo cannot
  rw [Bool.not_not, Bool.eq_iff_iff]
  exact ⟨canHold_mono (fun i hi h => by rw [← e i hi]; exact h), canHold_mono (fun i hi h => by rw [e i hi]; exact h)⟩
theorem mendA_succ {n k : Nat} {ls : List (List Int)} (hk : k < 2 ^ ls.length) : mendA n ls (k + 1) = mendA n ls k ++ [!(cantA n ls).getD (2 ^ ls.length - 1 - k) false] := by
  unfold mendA
  rw [List.range_succ, List.map_append, cantA_at (by omega), ← canDo_not hk]
  rfl
theorem coresOf_ok {n : Int} {ls : List (List Int)} (h : (smallW n ls).1 = 0) : coresOf n ls = (nubL (listsR (cannot n.toNat ls) ls.length (2 ^ ls.length)), 0, 0) := by
  rw [coresOf, if_neg (fun h2 => h2 h), lists_ref (cannot_mono _ _)]
theorem mendsOf_ok {n : Int} {ls : List (List Int)} (h : (smallW n ls).1 = 0) : mendsOf n ls = (nubL (listsR (canDo n.toNat ls) ls.length (2 ^ ls.length)), 0, 0) := by
  rw [mendsOf, if_neg (fun h2 => h2 h), lists_ref (canDo_mono _ _)]
theorem coresOf_bad {n : Int} {ls : List (List Int)} (h : ¬ (smallW n ls).1 = 0) : coresOf n ls = ([], smallW n ls) := by rw [coresOf, if_pos h]
theorem mendsOf_bad {n : Int} {ls : List (List Int)} (h : ¬ (smallW n ls).1 = 0) : mendsOf n ls = ([], smallW n ls) := by rw [mendsOf, if_pos h]
end Sp
end Go.Um
