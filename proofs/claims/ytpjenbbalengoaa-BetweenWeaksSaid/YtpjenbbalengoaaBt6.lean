/- Plain law: the strongest and the weakest. No program in sight. No condition. -/
import Derived.Test.YtpjenbbalengoaaBt5
namespace Go.Um
namespace Sp

theorem btWord : ∀ a : List Bool, ∃ w : Nat, w < 2 ^ a.length ∧ bits a.length w = a
  | [] => ⟨0, by simp, by simp [bits]⟩
  | b :: a => by
    obtain ⟨w, h1, h2⟩ := btWord a
    cases b with
    | false => exact ⟨w, by rw [List.length_cons, Nat.pow_succ]; omega, by rw [List.length_cons, bits_lo h1, h2]⟩
    | true => exact ⟨2 ^ a.length + w, by rw [List.length_cons, Nat.pow_succ]; omega, by rw [List.length_cons, bits_hi h1, h2]⟩

/-! ### Some assignment -/
def btV (n : Nat) (l : List (List Int)) : Int := idx (fun (w : Nat) => all (bits n w) l) (List.range (2 ^ n))
theorem btV_at {n w : Nat} {l : List (List Int)} (hw : w < 2 ^ n) (h : ∀ v : Nat, v < w → all (bits n v) l = false) (h2 : all (bits n w) l = true) : btV n l = w := by
  unfold btV
  refine idx_at (z := 0) (by simpa using hw) (fun y hy => ?_) ?_
  · obtain ⟨j, hj, rfl⟩ := List.getElem_of_mem hy
    rw [List.getElem_take, List.getElem_range]
    exact h j (by simp at hj; omega)
  · have : (List.range (2 ^ n)).getD w 0 = w := by simp [List.getD, hw]
    rw [this]
    exact h2
theorem btV_none {n : Nat} {l : List (List Int)} (h : ∀ v : Nat, v < 2 ^ n → all (bits n v) l = false) : btV n l = -1 := by
  unfold btV
  exact idx_none (fun y hy => h y (List.mem_range.1 hy))
theorem btV_iff {n : Nat} {l : List (List Int)} : 0 ≤ btV n l ↔ ∃ w : Nat, w < 2 ^ n ∧ all (bits n w) l = true := by
  have h := idx_any (fun (w : Nat) => all (bits n w) l) (List.range (2 ^ n))
  constructor
  · intro h0
    have h1 : (List.range (2 ^ n)).any (fun (w : Nat) => all (bits n w) l) = true := by rw [← h]; exact decide_eq_true h0
    obtain ⟨w, hw, h2⟩ := List.any_eq_true.1 h1
    exact ⟨w, List.mem_range.1 hw, h2⟩
  · rintro ⟨w, hw, h2⟩
    have h1 : (List.range (2 ^ n)).any (fun (w : Nat) => all (bits n w) l) = true := List.any_eq_true.2 ⟨w, List.mem_range.2 hw, h2⟩
    rw [← h] at h1
    exact of_decide_eq_true h1
theorem all_both (x : List Bool) (a b : List (List Int)) : all x (a ++ b) = (all x a && all x b) := by unfold all; rw [List.all_append]
theorem apart_iff {k : Nat} {a b : List (List Int)} : 0 ≤ btV k (a ++ b) ↔ (1 : Int) ∈ btab (fun x => all x a && all x b) k := by
  rw [btV_iff]
  constructor
  · rintro ⟨w, hw, h⟩
    rw [all_both] at h
    have h1 := btab_at (fun x => all x a && all x b) k w hw
    rw [h] at h1
    rw [show (1 : Int) = b01 true from rfl, ← h1]
    exact getD_mem _ w 0 (by rw [btab_len]; exact hw)
  · intro h
    obtain ⟨w, hw, e⟩ := List.getElem_of_mem h
    rw [btab_len] at hw
    have h1 := btab_at (fun x => all x a && all x b) k w hw
    rw [getD_at _ (by rw [btab_len]; exact hw), e] at h1
    exact ⟨w, hw, by rw [all_both]; exact (b01_one _).1 h1.symm⟩
section
variable {n m : Int} {a b : List (List Int)}
theorem apW_yes (h : (betW n a m b).1 = 0 ∧ 0 ≤ btV n.toNat (a ++ b)) : apW n a m b = (11, 0) := by
  rw [apW, if_neg (fun h2 => h2 h.1), if_pos (decide_eq_true (apart_iff.1 h.2))]
theorem apW_no (h : ¬ ((betW n a m b).1 = 0 ∧ 0 ≤ btV n.toNat (a ++ b))) : apW n a m b = betW n a m b := by
  rw [apW]
  by_cases h1 : (betW n a m b).1 = 0
  · rw [if_neg (fun h2 => h2 h1), if_neg (fun h2 => h ⟨h1, apart_iff.2 (of_decide_eq_true h2)⟩), bet_zero h1]
  · rw [if_pos h1]
end
theorem bet_len {n m : Int} {a b : List (List Int)} (h : (betW n a m b).1 = 0) : a.length + b.length ≤ 400 := by
  obtain ⟨k, _, _, _, _, _, h⟩ := bet_ok h
  exact h
theorem ap_zero {n m : Int} {a b : List (List Int)} (h : (apW n a m b).1 = 0) : apW n a m b = (0, 0) := by
  have h1 := ap_ok h
  by_cases h2 : 0 ≤ btV n.toNat (a ++ b)
  · rw [apW_yes ⟨h1, h2⟩] at h; exact absurd h (by decide)
  · rw [apW_no (fun h3 => h2 h3.2), bet_zero h1]

/-! ### For some values of the other variables -/
theorem getD_setB (x : List Bool) (i j : Nat) (c : Bool) (hj : j < x.length) : (x.set i c).getD j false = if i = j then c else x.getD j false := by
  rw [List.getD_eq_getElem?_getD, List.getElem?_set]
  by_cases e : i = j
  · subst e
    simp [hj]
  · simp [e, List.getD_eq_getElem?_getD]
theorem someT_iff {b : List (List Int)} {p : Prd} : ∀ (i : Nat) (x : List Bool), someT b p i x = true ↔ ∃ y : List Bool, y.length = x.length ∧ (∀ j, j < x.length → (i ≤ j ∨ occ b ((j : Int) + 1) = true) → y.getD j false = x.getD j false) ∧ p y = true
  | 0, x => by
    constructor
    · intro h
      exact ⟨x, rfl, fun _ _ _ => rfl, h⟩
    · rintro ⟨y, h1, h2, h3⟩
      have : y = x := bools_eq h1 (Nat.le_refl _) (fun j hj => h2 j (by omega) (.inl (Nat.zero_le _)))
      rw [← this]
      exact h3
  | i + 1, x => by
    rw [someT]
    by_cases hb : occ b ((i : Int) + 1) = false
    · rw [if_pos hb]
      unfold some2
      rw [show (((i : Int) + 1 - 1).toNat) = i by omega, Bool.or_eq_true, someT_iff i, someT_iff i]
      constructor
      · intro h
        have key : ∀ c : Bool, (∃ y : List Bool, y.length = (x.set i c).length ∧ (∀ j, j < (x.set i c).length → (i ≤ j ∨ occ b ((j : Int) + 1) = true) → y.getD j false = (x.set i c).getD j false) ∧ p y = true) → ∃ y : List Bool, y.length = x.length ∧ (∀ j, j < x.length → (i + 1 ≤ j ∨ occ b ((j : Int) + 1) = true) → y.getD j false = x.getD j false) ∧ p y = true := by
          rintro c ⟨y, h1, h2, h3⟩
          rw [List.length_set] at h1 h2
          refine ⟨y, h1, fun j hj hs => ?_, h3⟩
          have hne : i ≠ j := by
            rintro rfl
            rcases hs with hs | hs
            · omega
            · rw [hb] at hs; cases hs
          rw [h2 j hj (hs.imp (fun h => by omega) id), getD_setB _ _ _ _ hj, if_neg hne]
        exact h.elim (key false) (key true)
      · rintro ⟨y, h1, h2, h3⟩
        have key : ∃ y' : List Bool, y'.length = (x.set i (y.getD i false)).length ∧ (∀ j, j < (x.set i (y.getD i false)).length → (i ≤ j ∨ occ b ((j : Int) + 1) = true) → y'.getD j false = (x.set i (y.getD i false)).getD j false) ∧ p y' = true := by
          refine ⟨y, by rw [List.length_set]; exact h1, fun j hj hs => ?_, h3⟩
          rw [List.length_set] at hj
          rw [getD_setB _ _ _ _ hj]
          by_cases e : i = j
          · rw [if_pos e, e]
          · rw [if_neg e]
            exact h2 j hj (hs.imp (fun h => by omega) id)
        cases hc : y.getD i false with
        | false => rw [hc] at key; exact .inl key
        | true => rw [hc] at key; exact .inr key
    · rw [if_neg hb, someT_iff i]
      have hb' : occ b ((i : Int) + 1) = true := by simpa using hb
      constructor
      · rintro ⟨y, h1, h2, h3⟩
        exact ⟨y, h1, fun j hj hs => h2 j hj (hs.imp (fun h => by omega) id), h3⟩
      · rintro ⟨y, h1, h2, h3⟩
        refine ⟨y, h1, fun j hj hs => ?_, h3⟩
        by_cases e : i = j
        · exact h2 j hj (.inr (e ▸ hb'))
        · exact h2 j hj (hs.imp (fun h => by omega) id)

/-- Are the variables up to j that stand in others alike in two words? -/
def sameTo (o : List (List Int)) (k w v j : Nat) : Bool := (List.range j).all fun u => !(occ o ((u : Int) + 1) && decide (((w ^^^ v : Nat) : Int) / 2 ^ (k - 1 - u) % 2 = 1))
theorem sameTo_succ (o : List (List Int)) (k w v j : Nat) : sameTo o k w v (j + 1) = (sameTo o k w v j && !(occ o ((j : Int) + 1) && decide (((w ^^^ v : Nat) : Int) / 2 ^ (k - 1 - j) % 2 = 1))) := by
  unfold sameTo
  rw [List.range_succ, List.all_append]
  simp
theorem sameTo_iff {o : List (List Int)} {k w v : Nat} : sameTo o k w v k = true ↔ ∀ j, j < k → occ o ((j : Int) + 1) = true → (bits k w).getD j false = (bits k v).getD j false := by
  unfold sameTo
  rw [List.all_eq_true]
  constructor
  · intro h j hj ho
    have h1 := h j (List.mem_range.2 hj)
    rw [ho, Bool.true_and, bit_test, Nat.testBit_xor] at h1
    rw [bits_get hj, bits_get hj]
    cases e1 : w.testBit (k - 1 - j) <;> cases e2 : v.testBit (k - 1 - j) <;> rw [e1, e2] at h1 <;> first | rfl | cases h1
  · intro h j hj
    have hj := List.mem_range.1 hj
    cases ho : occ o ((j : Int) + 1) with
    | false => rfl
    | true =>
      have h1 := h j hj ho
      rw [bits_get hj, bits_get hj] at h1
      rw [Bool.true_and, bit_test, Nat.testBit_xor, h1]
      simp
def fsA (k : Nat) (l o : List (List Int)) (W v : Nat) : Bool := (List.range W).any fun w => all (bits k w) l && sameTo o k w v k
def fsT (k : Nat) (l o : List (List Int)) (W : Nat) : List Bool := (List.range (2 ^ k)).map (fsA k l o W)
theorem fsA_succ (k : Nat) (l o : List (List Int)) (W v : Nat) : fsA k l o (W + 1) v = (fsA k l o W v || (all (bits k W) l && sameTo o k W v k)) := by
  unfold fsA
  rw [List.range_succ, List.any_append]
  simp
theorem fsT_zero (k : Nat) (l o : List (List Int)) : fsT k l o 0 = List.replicate (2 ^ k) false := by
  unfold fsT
  rw [List.eq_replicate_iff]
  refine ⟨by simp, fun y hy => ?_⟩
  obtain ⟨v, _, rfl⟩ := List.mem_map.1 hy
  rfl
theorem fsT_skip {k : Nat} {l o : List (List Int)} {W : Nat} (h : all (bits k W) l = false) : fsT k l o (W + 1) = fsT k l o W := by
  unfold fsT
  refine List.map_congr_left fun v _ => ?_
  rw [fsA_succ, h, Bool.false_and, Bool.or_false]
theorem fsT_fill (k : Nat) (l o : List (List Int)) (W : Nat) : fsT k l o W = fillTo (2 ^ k) (fsA k l o W) (fsA k l o (W + 1)) 0 := (fill_zero _ _ _).symm
theorem fsT_done (k : Nat) (l o : List (List Int)) (W : Nat) {i : Nat} (h : 2 ^ k ≤ i) : fillTo (2 ^ k) (fsA k l o W) (fsA k l o (W + 1)) i = fsT k l o (W + 1) := fill_end _ _ h
theorem fsT_len (k : Nat) (l o : List (List Int)) (W : Nat) : (fsT k l o W).length = 2 ^ k := by simp [fsT]
theorem fsA_step {k : Nat} {l o : List (List Int)} {W v : Nat} (hv : v < 2 ^ k) (h : all (bits k W) l = true) : (fillTo (2 ^ k) (fsA k l o W) (fsA k l o (W + 1)) v).set v ((fillTo (2 ^ k) (fsA k l o W) (fsA k l o (W + 1)) v).getD v false || sameTo o k W v k) = fillTo (2 ^ k) (fsA k l o W) (fsA k l o (W + 1)) (v + 1) := by
  refine fill_to hv ?_
  rw [fill_get _ _ _ _ hv, if_neg (Nat.lt_irrefl v), fsA_succ, h, Bool.true_and]
theorem fsT_some (k : Nat) (l o : List (List Int)) : fsT k l o (2 ^ k) = dtab (someT o (fun x => all x l) k) k := by
  unfold fsT dtab
  refine List.map_congr_left fun v _ => ?_
  rw [Bool.eq_iff_iff, someT_iff]
  unfold fsA
  rw [List.any_eq_true]
  constructor
  · rintro ⟨w, _, h⟩
    rw [Bool.and_eq_true] at h
    refine ⟨bits k w, by rw [bits_length, bits_length], fun j hj hs => ?_, h.1⟩
    rw [bits_length] at hj
    exact sameTo_iff.1 h.2 j hj (hs.resolve_left (by omega))
  · rintro ⟨y, h1, h2, h3⟩
    rw [bits_length] at h1 h2
    obtain ⟨w, h4, h5⟩ := btWord y
    rw [h1] at h4 h5
    refine ⟨w, List.mem_range.2 h4, ?_⟩
    rw [Bool.and_eq_true, h5]
    refine ⟨h3, sameTo_iff.2 fun j hj ho => ?_⟩
    rw [h5]
    exact h2 j hj (.inr ho)
end Sp
end Go.Um
