/- Plain facts: sets as words of bits. No condition. -/
import Derived.Test.YtofonmfoificjaaSp4
namespace Go.Um
namespace Sp

def mask (q : Nat → Bool) : Nat → Nat
  | 0 => 0
  | b + 1 => if q b = true then mask q b ||| 2 ^ b else mask q b

theorem mask_bit (q : Nat → Bool) : ∀ m j, (mask q m).testBit j = (decide (j < m) && q j)
  | 0, j => by simp [mask]
  | m + 1, j => by
    have ih := mask_bit q m j
    rw [mask]
    by_cases hj : j = m
    · subst hj
      by_cases h : q j = true
      · rw [if_pos h, Nat.testBit_or, Nat.testBit_two_pow_self, h]; simp
      · rw [if_neg h, ih]; simp [Bool.eq_false_iff.2 h]
    · have e : decide (j < m + 1) = decide (j < m) := by
        by_cases h : j < m
        · rw [decide_eq_true h, decide_eq_true (by omega)]
        · rw [decide_eq_false h, decide_eq_false (by omega)]
      rw [e]
      by_cases h : q m = true
      · rw [if_pos h, Nat.testBit_or, Nat.testBit_two_pow, ih, show decide (m = j) = false from decide_eq_false (by omega), Bool.or_false]
      · rw [if_neg h, ih]

theorem mask_lt (q : Nat → Bool) (m : Nat) : mask q m < 2 ^ m := by
  induction m with
  | zero => simp [mask]
  | succ m ih =>
    rw [mask]
    have h2 : 2 ^ m < 2 ^ (m + 1) := Nat.pow_lt_pow_right (by decide) (by omega)
    split
    · exact Nat.or_lt_two_pow (Nat.lt_trans ih h2) h2
    · exact Nat.lt_trans ih h2

/-- The word w of the numbers below k that a set holds. -/
def word (q : Nat → Bool) (k w : Nat) : Nat := mask (fun b => decide (64 * w + b < k) && q (64 * w + b)) 64

theorem word_bit (q : Nat → Bool) (k w b : Nat) : (word q k w).testBit b = (decide (b < 64) && (decide (64 * w + b < k) && q (64 * w + b))) := mask_bit _ _ _
theorem word_lt (q : Nat → Bool) (k w : Nat) : word q k w < 18446744073709551616 := mask_lt _ 64
theorem word_zero (q : Nat → Bool) (w : Nat) : word q 0 w = 0 := by
  refine Nat.eq_of_testBit_eq (fun b => ?_)
  rw [word_bit]
  simp
theorem word_no {q : Nat → Bool} {k : Nat} (h : q k = false) (w : Nat) : word q (k + 1) w = word q k w := by
  refine Nat.eq_of_testBit_eq (fun b => ?_)
  rw [word_bit, word_bit]
  by_cases e : 64 * w + b = k
  · rw [e, h]; simp
  · have : decide (64 * w + b < k + 1) = decide (64 * w + b < k) := decide_eq_decide.2 (by omega)
    rw [this]
theorem word_other {q : Nat → Bool} {k w : Nat} (hw : w ≠ k / 64) : word q (k + 1) w = word q k w := by
  refine Nat.eq_of_testBit_eq (fun b => ?_)
  rw [word_bit, word_bit]
  by_cases hb : b < 64
  · have : decide (64 * w + b < k + 1) = decide (64 * w + b < k) := decide_eq_decide.2 (by omega)
    rw [this]
  · rw [decide_eq_false hb]; rfl
theorem word_yes {q : Nat → Bool} {k : Nat} (h : q k = true) : word q (k + 1) (k / 64) = word q k (k / 64) ||| 2 ^ (k % 64) := by
  refine Nat.eq_of_testBit_eq (fun b => ?_)
  rw [Nat.testBit_or, word_bit, word_bit, Nat.testBit_two_pow]
  by_cases hb : b < 64
  · by_cases e : b = k % 64
    · subst e
      have e2 : 64 * (k / 64) + k % 64 = k := Nat.div_add_mod k 64
      rw [e2, h]
      simp [hb]
    · have : decide (64 * (k / 64) + b < k + 1) = decide (64 * (k / 64) + b < k) := decide_eq_decide.2 (by omega)
      rw [this, show decide (k % 64 = b) = false from decide_eq_false (by omega), Bool.or_false]
  · rw [decide_eq_false hb, decide_eq_false (by omega : ¬ k % 64 = b)]
    rfl

/-- A clause's words, when k assignments have been tried. -/
def satB (n : Nat) (ls : List (List Int)) (j k : Nat) : Bool := sat (bits n k) (ls.getD j [])
def wrds (n : Nat) (ls : List (List Int)) (m k j : Nat) : List Int := (List.range m).map fun w => (word (satB n ls j) k w : Int)
def wcnt (n : Nat) : Nat := (2 ^ n + 63) / 64
def setsD (n : Nat) (ls : List (List Int)) : List (List Int) := (List.range ls.length).map fun j => wrds n ls (wcnt n) (2 ^ n) j

theorem wrds_len (n : Nat) (ls : List (List Int)) (m k j : Nat) : (wrds n ls m k j).length = m := by simp [wrds]
theorem wrds_at {n : Nat} {ls : List (List Int)} {m k j w : Nat} (hw : w < m) : (wrds n ls m k j).getD w 0 = (word (satB n ls j) k w : Int) := by simp [wrds, List.getD, hw]
theorem wrds_zero (n : Nat) (ls : List (List Int)) (m j : Nat) : wrds n ls m 0 j = List.replicate m 0 := by
  unfold wrds
  apply List.ext_getElem (by simp)
  intro i h1 h2
  simp [word_zero]
theorem wrds_no {n : Nat} {ls : List (List Int)} {m k j : Nat} (h : satB n ls j k = false) : wrds n ls m (k + 1) j = wrds n ls m k j := by
  unfold wrds
  refine List.map_congr_left (fun w _ => ?_)
  rw [word_no h]
theorem wrds_yes {n : Nat} {ls : List (List Int)} {m k j : Nat} (h : satB n ls j k = true) : wrds n ls m (k + 1) j = (wrds n ls m k j).set (k / 64) ((word (satB n ls j) k (k / 64) ||| 2 ^ (k % 64) : Nat) : Int) := by
  unfold wrds
  apply List.ext_getElem (by simp)
  intro i h1 h2
  simp only [List.length_map, List.length_range] at h1
  by_cases e : i = k / 64
  · subst e
    rw [List.getElem_set_self, List.getElem_map, List.getElem_range, word_yes h]
  · rw [List.getElem_set_ne (fun h => e h.symm), List.getElem_map, List.getElem_map, List.getElem_range, word_other e]

theorem setsD_len (n : Nat) (ls : List (List Int)) : (setsD n ls).length = ls.length := by simp [setsD]
theorem setsD_at {n : Nat} {ls : List (List Int)} {i : Nat} (hi : i < ls.length) : (setsD n ls).getD i [] = wrds n ls (wcnt n) (2 ^ n) i := by simp [setsD, List.getD, hi]
theorem setsD_word {n : Nat} {ls : List (List Int)} {i w : Nat} (hi : i < ls.length) (hw : w < wcnt n) : ((setsD n ls).getD i []).getD w 0 = ((word (satB n ls i) (2 ^ n) w : Nat) : Int) := by rw [setsD_at hi, wrds_at hw]

/-! ### Whether some can hold together -/

def canHold (n : Nat) (ls : List (List Int)) (inn : Nat → Bool) : Bool := (List.range (2 ^ n)).any fun k => (List.range ls.length).all fun i => !inn i || satB n ls i k

def full (n : Nat) : Nat := if n < 6 then 2 ^ 2 ^ n - 1 else 18446744073709551615
theorem full_bit (n b : Nat) : (full n).testBit b = (decide (b < 64) && decide (b < 2 ^ n)) := by
  unfold full
  split
  · rename_i h
    rw [Nat.testBit_two_pow_sub_one]
    have : 2 ^ n ≤ 32 := Nat.pow_le_pow_right (n := 2) (by decide) (show n ≤ 5 by omega)
    by_cases hb : b < 2 ^ n
    · rw [decide_eq_true hb, decide_eq_true (by omega)]; rfl
    · rw [decide_eq_false hb, Bool.and_false]
  · rename_i h
    rw [show (18446744073709551615 : Nat) = 2 ^ 64 - 1 from rfl, Nat.testBit_two_pow_sub_one]
    have : 64 ≤ 2 ^ n := Nat.pow_le_pow_right (n := 2) (by decide) (show 6 ≤ n by omega)
    by_cases hb : b < 64
    · rw [decide_eq_true hb, decide_eq_true (by omega)]; rfl
    · rw [decide_eq_false hb]; rfl
theorem full_lt (n : Nat) : full n < 18446744073709551616 := by
  unfold full
  split
  · rename_i h
    have h1 : 2 ^ n ≤ 32 := Nat.pow_le_pow_right (n := 2) (by decide) (show n ≤ 5 by omega)
    have h2 : 2 ^ 2 ^ n ≤ 2 ^ 32 := Nat.pow_le_pow_right (n := 2) (by decide) h1
    have h3 : (2 : Nat) ^ 32 = 4294967296 := rfl
    omega
  · decide

def openTo (n : Nat) (ls : List (List Int)) (inn : Nat → Bool) (w : Nat) : Nat → Nat
  | 0 => full n
  | i + 1 => if inn i = true then openTo n ls inn w i &&& word (satB n ls i) (2 ^ n) w else openTo n ls inn w i
theorem openTo_lt (n : Nat) (ls : List (List Int)) (inn : Nat → Bool) (w : Nat) : ∀ i, openTo n ls inn w i < 18446744073709551616
  | 0 => full_lt n
  | i + 1 => by
    have := openTo_lt n ls inn w i
    rw [openTo]
    split
    · exact Nat.lt_of_le_of_lt Nat.and_le_left this
    · exact this
theorem openTo_bit (n : Nat) (ls : List (List Int)) (inn : Nat → Bool) (w b : Nat) : ∀ i, (openTo n ls inn w i).testBit b = true ↔ (b < 64 ∧ b < 2 ^ n) ∧ ∀ j, j < i → inn j = true → (64 * w + b < 2 ^ n ∧ satB n ls j (64 * w + b) = true)
  | 0 => by
    rw [openTo, full_bit, Bool.and_eq_true, decide_eq_true_eq, decide_eq_true_eq]
    exact ⟨fun h => ⟨h, fun j hj => absurd hj (Nat.not_lt_zero _)⟩, fun h => h.1⟩
  | i + 1 => by
    have ih := openTo_bit n ls inn w b i
    rw [openTo]
    by_cases h : inn i = true
    · rw [if_pos h, Nat.testBit_and, Bool.and_eq_true, ih, word_bit]
      simp only [Bool.and_eq_true, decide_eq_true_eq]
      constructor
      · rintro ⟨⟨h1, h2⟩, _, h3⟩
        refine ⟨h1, fun j hj hi => ?_⟩
        by_cases e : j = i
        · rw [e]; exact h3
        · exact h2 j (by omega) hi
      · rintro ⟨h1, h2⟩
        exact ⟨⟨h1, fun j hj hi => h2 j (by omega) hi⟩, h1.1, h2 i (by omega) h⟩
    · rw [if_neg h, ih]
      constructor
      · rintro ⟨h1, h2⟩
        refine ⟨h1, fun j hj hi => ?_⟩
        by_cases e : j = i
        · exact absurd (e ▸ hi) h
        · exact h2 j (by omega) hi
      · rintro ⟨h1, h2⟩
        exact ⟨h1, fun j hj hi => h2 j (by omega) hi⟩

/-- No word below w has an assignment left. -/
theorem canHold_no {n : Nat} {ls : List (List Int)} {inn : Nat → Bool} (h : ∀ w, w < wcnt n → openTo n ls inn w ls.length = 0) : canHold n ls inn = false := by
  unfold canHold
  rw [List.any_eq_false]
  intro k hk hall
  have hk := List.mem_range.1 hk
  rw [List.all_eq_true] at hall
  have hw : k / 64 < wcnt n := by unfold wcnt; omega
  have h0 := h (k / 64) hw
  have hb := (openTo_bit n ls inn (k / 64) (k % 64) ls.length).2 ⟨⟨by omega, by omega⟩, fun j hj hi => by
    have e : 64 * (k / 64) + k % 64 = k := Nat.div_add_mod k 64
    rw [e]
    refine ⟨hk, ?_⟩
    have := hall j (List.mem_range.2 hj)
    rw [hi] at this
    simpa using this⟩
  rw [h0] at hb
  simp at hb
theorem canHold_yes {n : Nat} {ls : List (List Int)} {inn : Nat → Bool} {w : Nat} (hw : w < wcnt n) (h : openTo n ls inn w ls.length ≠ 0) : canHold n ls inn = true := by
  obtain ⟨b, hb⟩ := Nat.exists_testBit_of_ne_zero h
  obtain ⟨⟨h1, h2⟩, h3⟩ := (openTo_bit n ls inn w b ls.length).1 hb
  have hk : 64 * w + b < 2 ^ n := by
    unfold wcnt at hw
    by_cases hn : n < 6
    · have : 2 ^ n ≤ 32 := Nat.pow_le_pow_right (n := 2) (by decide) (show n ≤ 5 by omega)
      omega
    · obtain ⟨q, hq⟩ : ∃ q, 2 ^ n = 64 * q := ⟨2 ^ (n - 6), by rw [show (64 : Nat) = 2 ^ 6 from rfl, ← Nat.pow_add]; congr 1; omega⟩
      omega
  unfold canHold
  rw [List.any_eq_true]
  refine ⟨64 * w + b, List.mem_range.2 hk, ?_⟩
  rw [List.all_eq_true]
  intro i hi
  have hi := List.mem_range.1 hi
  by_cases h4 : inn i = true
  · rw [(h3 i hi h4).2, Bool.or_true]
  · rw [Bool.eq_false_iff.2 h4]; rfl

end Sp
end Go.Um
