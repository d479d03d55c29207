/- Plain law: the strongest and the weakest. No program in sight. No condition. -/
import Derived.Test.YtfjafkocejoigaaBt5
namespace Go.Um
namespace Sp
def btV (n : Nat) (l : List (List Int)) : Int := idx (fun (w : Nat) => all (bits n w) l) (List.range (2 ^ n))
theorem btV_iff {n : Nat} {l : List (List Int)} : 0 ≤ btV n l ↔ ∃ w : Nat, w < 2 ^ n ∧ all (bits n w) l = true := by
  have h := idx_any (fun (w : Nat) => all (bits n w) l) (List.range (2 ^ n))
  constructor
  · intro h0
    have h1 : (List.range (2 ^ n)).any (fun (w : Nat) => all (bits n w) l) = true := by rw [← h]; exact decide_eq_true h0
    obtain ⟨w, hw, h2⟩ := List.any_eq_true.1 h1
    exact ⟨w, List.mem_range.1 hw, h2⟩
  · rintro ⟨w, hw, h2⟩
    have h1 : (List.range (2 ^ n)).any (fun (w : Nat) => all (bits n w) l) = true := List.any_eq_true.2 ⟨w, List.mem_range.2 hw, h2⟩
    rw [← h] at h1
    exact of_decide_eq_true h1
theorem all_both (x : List Bool) (a b : List (List Int)) : all x (a ++ b) = (all x a && all x b) := by unfold all; rw [List.all_append]
theorem apart_iff {k : Nat} {a b : List (List Int)} : 0 ≤ btV k (a ++ b) ↔ (1 : Int) ∈ btab (fun x => all x a && all x b) k := by
  rw [btV_iff]
  constructor
  · rintro ⟨w, hw, h⟩
    rw [all_both] at h
    have h1 := btab_at (fun x => all x a && all x b) k w hw
    rw [h] at h1
    rw [show (1 : Int) = b01 true from rfl, ← h1]
    exact getD_mem _ w 0 (by rw [btab_len]; exact hw)
  · intro h
    obtain ⟨w, hw, e⟩ := List.getElem_of_mem h
    rw [btab_len] at hw
    have h1 := btab_at (fun x => all x a && all x b) k w hw
    rw [getD_at _ (by rw [btab_len]; exact hw), e] at h1
    exact ⟨w, hw, by rw [all_both]; exact (b01_one _).1 h1.symm⟩
section
variable {n m : Int} {a b : List (List Int)}
theorem apW_no (h : ¬ ((betW n a m b).1 = 0 ∧ 0 ≤ btV n.toNat (a ++ b))) : apW n a m b = betW n a m b := by
  rw [apW]
  by_cases h1 : (betW n a m b).1 = 0
  · rw [if_neg (fun h2 => h2 h1), if_neg (fun h2 => h ⟨h1, apart_iff.2 (of_decide_eq_true h2)⟩), bet_zero h1]
  · rw [if_pos h1]
end
theorem getD_setB (x : List Bool) (i j : Nat) (c : Bool) (hj : j < x.length) : (x.set i c).getD j false = if i = j then c else x.getD j false := by
  rw [List.getD_eq_getElem?_getD, List.getElem?_set]
  by_cases e : i = j
  · subst e
    simp [hj]
  · simp [e, List.getD_eq_getElem?_getD]
theorem someT_iff {b : List (List Int)} {p : Prd} : ∀ (i : Nat) (x : List Bool), someT b p i x = true ↔ ∃ y : List Bool, y.length = x.length ∧ (∀ j, j < x.length → (i ≤ j ∨ occ b ((j : Int) + 1) = true) → y.getD j false = x.getD j false) ∧ p y = true
  | 0, x => by
    constructor
    · intro h
      exact ⟨x, rfl, fun _ _ _ => rfl, h⟩
    · rintro ⟨y, h1, h2, h3⟩
      have : y = x := bools_eq h1 (Nat.le_refl _) (fun j hj => h2 j (by omega) (.inl (Nat.zero_le _)))
      rw [← this]
      exact h3
  | i + 1, x => by
    rw [someT]
    by_cases hb : occ b ((i : Int) + 1) = false
    · rw [if_pos hb]
      unfold some2
      rw [show (((i : Int) + 1 - 1).toNat) = i by omega, Bool.or_eq_true, someT_iff i, someT_iff i]
      constructor
      · intro h
        have key : ∀ c : Bool, (∃ y : List Bool, y.length = (x.set i c).length ∧ (∀ j, j < (x.set i c).length → (i ≤ j ∨ occ b ((j : Int) + 1) = true) → y.getD j false = (x.set i c).getD j false) ∧ p y = true) → ∃ y : List Bool, y.length = x.length ∧ (∀ j, j < x.length → (i + 1 ≤ j ∨ occ b ((j : Int) + 1) = true) → y.getD j false = x.getD j false) ∧ p y = true := by
          rintro c ⟨y, h1, h2, h3⟩
          rw [List.length_set] at h1 h2
          refine ⟨y, h1, fun j hj hs => ?_, h3⟩
          have hne : i ≠ j := by
            rintro rfl
            rcases hs with hs | hs
            · omega
            · rw [hb] at hs; cases hs
          rw [h2 j hj (hs.imp (fun h => by omega) id), getD_setB _ _ _ _ hj, if_neg hne]
        exact h.elim (key false) (key true)
      · rintro ⟨y, h1, h2, h3⟩
        have key : ∃ y' : List Bool, y'.length = (x.set i (y.getD i false)).length ∧ (∀ j, j < (x.set i (y.getD i false)).length → (i ≤ j ∨ occ b ((j : Int) + 1) = true) → y'.getD j false = (x.set i (y.getD i false)).getD j false) ∧ p y' = true := by
          refine ⟨y, by rw [List.length_set]; exact h1, fun j hj hs => ?_, h3⟩
          rw [List.length_set] at hj
          rw [getD_setB _ _ _ _ hj]
          by_cases e : i = j
          · rw [if_pos e, e]
          · rw [if_neg e]
            exact h2 j hj (hs.imp (fun h => by omega) id)
        cases hc : y.getD i false with
        | false => rw [hc] at key; exact .inl key
        | true => rw [hc] at key; exact .inr key
    · rw [if_neg hb, someT_iff i]
      have hb' : occ b ((i : Int) + 1) = true := by simpa using hb
      constructor
      · rintro ⟨y, h1, h2, h3⟩
        exact ⟨y, h1, fun j hj hs => h2 j hj (hs.imp (fun h => by omega) id), h3⟩
      · rintro ⟨y, h1, h2, h3⟩
        refine ⟨y, h1, fun j hj hs => ?_, h3⟩
        by_cases e : i = j
        · exact h2 j hj (.inr (e ▸ hb'))
        · exact h2 j hj (hs.imp (fun h => by omega) id)
def sameTo (o : List (List Int)) (k w v j : Nat) : Bool := (List.range j).all fun u => !(occ o ((u : Int) + 1) && decide (((w ^^^ v : Nat) : Int) / 2 ^ (k - 1 - u) % 2 = 1))
def fsA (k : Nat) (l o : List (List Int)) (W v : Nat) : Bool := (List.range W).any fun w => all (bits k w) l && sameTo o k w v k
def fsT (k : Nat) (l o : List (List Int)) (W : Nat) : List Bool := (List.range (2 ^ k)).map (fsA k l o W)
end Sp
end Go.Um
