/- Plain facts: wishes and their weights. No condition. -/
import Derived.Test.YtofonmfoificjaaSpF
namespace Go.Um
namespace Sp

def softFrom (n : Int) (ws : List (List Int)) (gs : List Int) (i : Nat) : Int × Int :=
  if i < ws.length then
    if 24 ≤ (ws.getD i []).length then (2, -1 - (i : Int))
    else if (wrong n (ws.getD i [])).1 ≠ 0 then ((wrong n (ws.getD i [])).1, -1 - (i : Int))
    else if gs.getD i 0 < 0 ∨ 1000 < gs.getD i 0 then (10, -1 - (i : Int))
    else softFrom n ws gs (i + 1)
  else (0, 0)
termination_by ws.length - i

def softS (n : Int) (ls ws : List (List Int)) (gs : List Int) (fuel : Int) : Int × Int :=
  if 10 < (ws.length : Int) ∨ 120 < n + ws.length ∨ 400 < (ls.length : Int) + ws.length then (2, -1)
  else if gs.length ≠ ws.length then (9, -1)
  else if (softFrom n ws gs 0).1 ≠ 0 then softFrom n ws gs 0
  else if fuel < 0 ∨ 2000 < fuel then (3, -1) else (0, 0)
def softW (n : Int) (ls ws : List (List Int)) (gs : List Int) (fuel : Int) : Int × Int :=
  if (check n ls).1 ≠ 0 then check n ls else softS n ls ws gs fuel

theorem softFrom_ok {n : Int} {ws : List (List Int)} {gs : List Int} : ∀ (m i : Nat), ws.length - i = m → (softFrom n ws gs i).1 = 0 →
    softFrom n ws gs i = (0, 0) ∧ ∀ j, i ≤ j → j < ws.length → (wrong n (ws.getD j [])).1 = 0 ∧ 0 ≤ gs.getD j 0 ∧ gs.getD j 0 ≤ 1000 := by
  intro m
  induction m with
  | zero =>
    intro i hm h
    rw [softFrom, if_neg (by omega)] at h ⊢
    exact ⟨rfl, fun j h1 h2 => by omega⟩
  | succ m ih =>
    intro i hm h
    rw [softFrom, if_pos (by omega)] at h ⊢
    split at h
    · exact absurd h (show (2 : Int) ≠ 0 by decide)
    split at h
    · rename_i h1 h2; exact absurd h h2
    split at h
    · exact absurd h (show (10 : Int) ≠ 0 by decide)
    rename_i h1 h2 h3
    rw [if_neg h1, if_neg h2, if_neg h3]
    obtain ⟨e, hj⟩ := ih (i + 1) (by omega) h
    refine ⟨e, fun j h4 h5 => ?_⟩
    by_cases e2 : j = i
    · subst e2; exact ⟨by simpa using h2, by omega, by omega⟩
    · exact hj j (by omega) h5

theorem softW_ok {n : Int} {ls ws : List (List Int)} {gs : List Int} {fuel : Int} (h : (softW n ls ws gs fuel).1 = 0) :
    (check n ls).1 = 0 ∧ (ws.length ≤ 10 ∧ gs.length = ws.length) ∧ (∀ j, j < ws.length → (wrong n (ws.getD j [])).1 = 0 ∧ 0 ≤ gs.getD j 0 ∧ gs.getD j 0 ≤ 1000) ∧ (0 ≤ fuel ∧ fuel ≤ 2000) ∧ softW n ls ws gs fuel = (0, 0) := by
  unfold softW at h ⊢
  by_cases hc : (check n ls).1 = 0
  · rw [if_neg (fun x => x hc)] at h ⊢
    unfold softS at h ⊢
    split at h
    · exact absurd h (show (2 : Int) ≠ 0 by decide)
    split at h
    · exact absurd h (show (9 : Int) ≠ 0 by decide)
    split at h
    · rename_i h2; exact absurd h h2
    split at h
    · exact absurd h (show (3 : Int) ≠ 0 by decide)
    rename_i h1 h2 h3 h4
    rw [if_neg h1, if_neg h2, if_neg h3, if_neg h4]
    have h3 : (softFrom n ws gs 0).1 = 0 := by simpa using h3
    exact ⟨hc, ⟨by omega, by omega⟩, fun j hj => (softFrom_ok _ 0 rfl h3).2 j (Nat.zero_le _) hj, by omega, rfl⟩
  · rw [if_pos hc] at h; exact absurd h hc

theorem softW_fuel {n : Int} {ls ws : List (List Int)} {gs : List Int} {fuel : Int} (fuel' : Int) (h : (softW n ls ws gs fuel).1 = 0) (hf : 0 ≤ fuel' ∧ fuel' ≤ 2000) : softW n ls ws gs fuel' = (0, 0) := by
  have ho := softW_ok h
  have e := ho.2.2.2.2
  unfold softW at e ⊢
  rw [if_neg (fun x => x ho.1)] at e ⊢
  unfold softS at e ⊢
  split at e
  · exact absurd (congrArg Prod.fst e) (show (2 : Int) ≠ 0 by decide)
  split at e
  · exact absurd (congrArg Prod.fst e) (show (9 : Int) ≠ 0 by decide)
  split at e
  · rename_i h2; exact absurd (congrArg Prod.fst e) h2
  rename_i h1 h2 h3
  rw [if_neg h1, if_neg h2, if_neg h3, if_neg (by omega)]

/-- The wishes that do not hold, by weight. -/
def costTo (a : List Bool) (ws : List (List Int)) (gs : List Int) : Nat → Int
  | 0 => 0
  | i + 1 => costTo a ws gs i + (if sat a (ws.getD i []) = true then 0 else gs.getD i 0)
def cost (a : List Bool) (ws : List (List Int)) (gs : List Int) : Int := costTo a ws gs ws.length

theorem cost_yes {a : List Bool} {ws : List (List Int)} {gs : List Int} {i : Nat} (h : sat a (ws.getD i []) = true) : costTo a ws gs (i + 1) = costTo a ws gs i := by
  rw [costTo, if_pos h]; omega
theorem cost_no {a : List Bool} {ws : List (List Int)} {gs : List Int} {i : Nat} (h : sat a (ws.getD i []) = false) : costTo a ws gs (i + 1) = costTo a ws gs i + gs.getD i 0 := by
  rw [costTo, if_neg (by rw [h]; decide)]

/-- The weights may be. -/
def Fair (ws : List (List Int)) (gs : List Int) : Prop := ws.length ≤ 10 ∧ gs.length = ws.length ∧ ∀ j, j < ws.length → 0 ≤ gs.getD j 0 ∧ gs.getD j 0 ≤ 1000

theorem cost_bnd {ws : List (List Int)} {gs : List Int} (h : Fair ws gs) (a : List Bool) : ∀ i, i ≤ ws.length → 0 ≤ costTo a ws gs i ∧ costTo a ws gs i ≤ 1000 * i
  | 0, _ => ⟨Int.le_refl _, Int.le_refl _⟩
  | i + 1, hi => by
    have ih := cost_bnd h a i (by omega)
    have hg := h.2.2 i (by omega)
    rw [costTo]
    split <;> omega

theorem cost_nn {ws : List (List Int)} {gs : List Int} (h : Fair ws gs) (a : List Bool) : 0 ≤ cost a ws gs ∧ cost a ws gs ≤ 10000 := by
  have := cost_bnd h a ws.length (Nat.le_refl _)
  have := h.1
  unfold cost
  omega

/-- The best of the first ones. -/
def bestTo (m : Nat) (ls ws : List (List Int)) (gs : List Int) : Nat → Int × Int × List Bool
  | 0 => (2, 0, [])
  | k + 1 => if all (bits m k) ls = true then (if (bestTo m ls ws gs k).1 = 2 ∨ cost (bits m k) ws gs < (bestTo m ls ws gs k).2.1 then (1, cost (bits m k) ws gs, bits m k) else bestTo m ls ws gs k) else bestTo m ls ws gs k

theorem best_no {m : Nat} {ls ws : List (List Int)} {gs : List Int} {k : Nat} (h : all (bits m k) ls = false) : bestTo m ls ws gs (k + 1) = bestTo m ls ws gs k := by
  rw [bestTo, if_neg (by rw [h]; decide)]
theorem best_take {m : Nat} {ls ws : List (List Int)} {gs : List Int} {k : Nat} (h : all (bits m k) ls = true) (h2 : (bestTo m ls ws gs k).1 = 2 ∨ cost (bits m k) ws gs < (bestTo m ls ws gs k).2.1) : bestTo m ls ws gs (k + 1) = (1, cost (bits m k) ws gs, bits m k) := by
  rw [bestTo, if_pos h, if_pos h2]
theorem best_keep {m : Nat} {ls ws : List (List Int)} {gs : List Int} {k : Nat} (h : all (bits m k) ls = true) (h2 : ¬ ((bestTo m ls ws gs k).1 = 2 ∨ cost (bits m k) ws gs < (bestTo m ls ws gs k).2.1)) : bestTo m ls ws gs (k + 1) = bestTo m ls ws gs k := by
  rw [bestTo, if_pos h, if_neg h2]

/-- What the best is: none, or one that costs least. -/
def Least (m : Nat) (ls ws : List (List Int)) (gs : List Int) (k : Nat) (b : Int) : Prop :=
  (∃ j, j < k ∧ all (bits m j) ls = true ∧ cost (bits m j) ws gs = b) ∧ ∀ j, j < k → all (bits m j) ls = true → b ≤ cost (bits m j) ws gs
def NoneTo (m : Nat) (ls : List (List Int)) (k : Nat) : Prop := ∀ j, j < k → all (bits m j) ls = false

theorem best_is (m : Nat) (ls ws : List (List Int)) (gs : List Int) : ∀ k, (NoneTo m ls k ∧ bestTo m ls ws gs k = (2, 0, [])) ∨ (Least m ls ws gs k (bestTo m ls ws gs k).2.1 ∧ (bestTo m ls ws gs k).1 = 1 ∧ (bestTo m ls ws gs k).2.2.length = m ∧ all (bestTo m ls ws gs k).2.2 ls = true ∧ cost (bestTo m ls ws gs k).2.2 ws gs = (bestTo m ls ws gs k).2.1)
  | 0 => .inl ⟨fun j hj => absurd hj (Nat.not_lt_zero _), rfl⟩
  | k + 1 => by
    cases hy : all (bits m k) ls with
    | false =>
      rw [best_no hy]
      have hx : ∀ j, j < k + 1 → all (bits m j) ls = true → j < k := fun j h1 h2 => by
        rcases Nat.lt_or_ge j k with h | h
        · exact h
        · obtain rfl : j = k := by omega
          rw [h2] at hy; cases hy
      rcases best_is m ls ws gs k with ⟨h1, h2⟩ | ⟨⟨⟨j, h1, h1', h1''⟩, h2⟩, h3⟩
      · refine .inl ⟨fun j hj => ?_, h2⟩
        cases h : all (bits m j) ls with
        | false => rfl
        | true => rw [h1 j (hx j hj h)] at h; cases h
      · exact .inr ⟨⟨⟨j, by omega, h1', h1''⟩, fun j hj h => h2 j (hx j hj h) h⟩, h3⟩
    | true =>
      right
      by_cases ht : (bestTo m ls ws gs k).1 = 2 ∨ cost (bits m k) ws gs < (bestTo m ls ws gs k).2.1
      · rw [best_take hy ht]
        refine ⟨⟨⟨k, by omega, hy, rfl⟩, fun j hj h => ?_⟩, rfl, bits_length m k, hy, rfl⟩
        rcases Nat.lt_or_ge j k with hlt | hge
        · rcases best_is m ls ws gs k with ⟨h1, h2⟩ | ⟨⟨_, h2⟩, h3, _⟩
          · rw [h1 j hlt] at h; cases h
          · have h4 := h2 j hlt h
            rcases ht with ht | ht
            · rw [h3] at ht; exact absurd ht (by decide)
            · show cost (bits m k) ws gs ≤ _; omega
        · obtain rfl : j = k := by omega
          exact Int.le_refl _
      · rw [best_keep hy ht]
        rcases best_is m ls ws gs k with ⟨h1, h2⟩ | ⟨⟨⟨j, h1, h1', h1''⟩, h2⟩, h3⟩
        · exact absurd (.inl (by rw [h2])) ht
        · refine ⟨⟨⟨j, by omega, h1', h1''⟩, fun j hj h => ?_⟩, h3⟩
          rcases Nat.lt_or_ge j k with hlt | hge
          · exact h2 j hlt h
          · obtain rfl : j = k := by omega
            omega

theorem least_uni {m : Nat} {ls ws : List (List Int)} {gs : List Int} {k : Nat} {b c : Int} (h1 : Least m ls ws gs k b) (h2 : Least m ls ws gs k c) : b = c := by
  obtain ⟨⟨i, hi, hi2, hi3⟩, hm⟩ := h1
  obtain ⟨⟨j, hj, hj2, hj3⟩, hn⟩ := h2
  have := hm j hj hj2
  have := hn i hi hi2
  omega

/-- The reference's least. -/
def refC (m : Nat) (ws : List (List Int)) (gs : List Int) (l : List Int) : Int := l.foldl (fun b k => if b < 0 ∨ cost (bits m k) ws gs < b then cost (bits m k) ws gs else b) (-1)

theorem refC_take {m : Nat} {ws : List (List Int)} {gs : List Int} {l : List Int} {i : Nat} (hi : i < l.length) : refC m ws gs (l.take (i + 1)) = if refC m ws gs (l.take i) < 0 ∨ cost (bits m (l.getD i 0)) ws gs < refC m ws gs (l.take i) then cost (bits m (l.getD i 0)) ws gs else refC m ws gs (l.take i) := by
  unfold refC
  rw [take_getD l i 0 hi, List.foldl_append]
  rfl

theorem refC_mods {m : Nat} {ls ws : List (List Int)} {gs : List Int} (hf : Fair ws gs) : ∀ k, (NoneTo m ls k ∧ refC m ws gs (ofN (modsTo m ls k)) = -1) ∨ (Least m ls ws gs k (refC m ws gs (ofN (modsTo m ls k))) ∧ 0 ≤ refC m ws gs (ofN (modsTo m ls k)))
  | 0 => .inl ⟨fun j hj => absurd hj (Nat.not_lt_zero _), rfl⟩
  | k + 1 => by
    cases hy : all (bits m k) ls with
    | false =>
      rw [modsTo_no hy]
      have hx : ∀ j, j < k + 1 → all (bits m j) ls = true → j < k := fun j h1 h2 => by
        rcases Nat.lt_or_ge j k with h | h
        · exact h
        · obtain rfl : j = k := by omega
          rw [h2] at hy; cases hy
      rcases refC_mods hf k with ⟨h1, h2⟩ | ⟨⟨⟨j, h1, h1', h1''⟩, h2⟩, h3⟩
      · refine .inl ⟨fun j hj => ?_, h2⟩
        cases h : all (bits m j) ls with
        | false => rfl
        | true => rw [h1 j (hx j hj h)] at h; cases h
      · exact .inr ⟨⟨⟨j, by omega, h1', h1''⟩, fun j hj h => h2 j (hx j hj h) h⟩, h3⟩
    | true =>
      right
      have hn := cost_nn hf (bits m k)
      have e : refC m ws gs (ofN (modsTo m ls (k + 1))) = if refC m ws gs (ofN (modsTo m ls k)) < 0 ∨ cost (bits m k) ws gs < refC m ws gs (ofN (modsTo m ls k)) then cost (bits m k) ws gs else refC m ws gs (ofN (modsTo m ls k)) := by
        rw [modsTo_yes hy, ofN_app]; unfold refC; rw [List.foldl_append]; rfl
      rw [e]
      rcases refC_mods hf (m := m) (ls := ls) k with ⟨h1, h2⟩ | ⟨⟨⟨i, h1, h1', h1''⟩, h2⟩, h3⟩
      · rw [h2, if_pos (.inl (by decide))]
        refine ⟨⟨⟨k, by omega, hy, rfl⟩, fun j hj h => ?_⟩, hn.1⟩
        rcases Nat.lt_or_ge j k with hlt | hge
        · rw [h1 j hlt] at h; cases h
        · obtain rfl : j = k := by omega
          exact Int.le_refl _
      · split
        · rename_i ht
          refine ⟨⟨⟨k, by omega, hy, rfl⟩, fun j hj h => ?_⟩, hn.1⟩
          rcases Nat.lt_or_ge j k with hlt | hge
          · have := h2 j hlt h; omega
          · obtain rfl : j = k := by omega
            exact Int.le_refl _
        · rename_i ht
          refine ⟨⟨⟨i, by omega, h1', h1''⟩, fun j hj h => ?_⟩, h3⟩
          rcases Nat.lt_or_ge j k with hlt | hge
          · exact h2 j hlt h
          · obtain rfl : j = k := by omega
            omega

/-- The two answers go together. -/
theorem ref_best {m : Nat} {ls ws : List (List Int)} {gs : List Int} (hf : Fair ws gs) : (refC m ws gs (ofN (mods m ls)) < 0 ∧ bestTo m ls ws gs (2 ^ m) = (2, 0, [])) ∨ (0 ≤ refC m ws gs (ofN (mods m ls)) ∧ (bestTo m ls ws gs (2 ^ m)).1 = 1 ∧ (bestTo m ls ws gs (2 ^ m)).2.1 = refC m ws gs (ofN (mods m ls)) ∧ (bestTo m ls ws gs (2 ^ m)).2.2.length = m ∧ all (bestTo m ls ws gs (2 ^ m)).2.2 ls = true ∧ cost (bestTo m ls ws gs (2 ^ m)).2.2 ws gs = (bestTo m ls ws gs (2 ^ m)).2.1) := by
  rcases best_is m ls ws gs (2 ^ m) with ⟨h1, h2⟩ | ⟨h1, h2, h3, h4, h5⟩ <;> rcases refC_mods (m := m) (ls := ls) hf (2 ^ m) with ⟨h6, h7⟩ | ⟨h6, h7⟩
  · exact .inl ⟨by show refC m ws gs (ofN (modsTo m ls (2 ^ m))) < 0; omega, h2⟩
  · obtain ⟨⟨j, hj, hj2, _⟩, _⟩ := h6
    rw [h1 j hj] at hj2; cases hj2
  · obtain ⟨⟨j, hj, hj2, _⟩, _⟩ := h1
    rw [h6 j hj] at hj2; cases hj2
  · exact .inr ⟨h7, h2, least_uni h1 h6, h3, h4, h5⟩

/-- One wish more. -/
theorem costTo_app {a : List Bool} {ws ws' : List (List Int)} {gs gs' : List Int} : ∀ i, (∀ j, j < i → ws.getD j [] = ws'.getD j [] ∧ gs.getD j 0 = gs'.getD j 0) → costTo a ws gs i = costTo a ws' gs' i
  | 0, _ => rfl
  | i + 1, h => by
    rw [costTo, costTo, costTo_app i (fun j hj => h j (by omega)), (h i (by omega)).1, (h i (by omega)).2]

theorem cost_snoc {a : List Bool} {ws : List (List Int)} {gs : List Int} {w : List Int} {g : Int} (hl : gs.length = ws.length) : cost a (ws ++ [w]) (gs ++ [g]) = cost a ws gs + (if sat a w = true then 0 else g) := by
  have e0 : cost a (ws ++ [w]) (gs ++ [g]) = costTo a (ws ++ [w]) (gs ++ [g]) (ws.length + 1) := by unfold cost; rw [List.length_append]; rfl
  rw [e0, costTo]
  have e1 : (ws ++ [w]).getD ws.length [] = w := by simp [List.getD]
  have e2 : (gs ++ [g]).getD ws.length 0 = g := by rw [← hl]; simp [List.getD]
  rw [e1, e2]
  congr 1
  refine costTo_app _ fun j hj => ⟨?_, ?_⟩
  · simp [List.getD, List.getElem?_append_left hj]
  · simp [List.getD, List.getElem?_append_left (show j < gs.length by omega)]

theorem best_more {m : Nat} {ls ws : List (List Int)} {gs : List Int} {w : List Int} {g : Int} (hl : gs.length = ws.length) (hg : 0 ≤ g) (k : Nat) :
    (bestTo m ls ws gs k).1 = (bestTo m ls (ws ++ [w]) (gs ++ [g]) k).1 ∧ ((bestTo m ls ws gs k).1 = 2 ∨ (bestTo m ls ws gs k).1 = 1 ∧ (bestTo m ls ws gs k).2.1 ≤ (bestTo m ls (ws ++ [w]) (gs ++ [g]) k).2.1 ∧ (bestTo m ls (ws ++ [w]) (gs ++ [g]) k).2.1 ≤ (bestTo m ls ws gs k).2.1 + g) := by
  rcases best_is m ls ws gs k with ⟨h1, h2⟩ | ⟨h1, h2, _⟩ <;> rcases best_is m ls (ws ++ [w]) (gs ++ [g]) k with ⟨h6, h7⟩ | ⟨h6, h7, _⟩
  · rw [h2, h7]; exact ⟨rfl, .inl rfl⟩
  · obtain ⟨⟨j, hj, hj2, _⟩, _⟩ := h6
    rw [h1 j hj] at hj2; cases hj2
  · obtain ⟨⟨j, hj, hj2, _⟩, _⟩ := h1
    rw [h6 j hj] at hj2; cases hj2
  · refine ⟨by rw [h2, h7], .inr ⟨h2, ?_⟩⟩
    obtain ⟨⟨i, hi, hi2, hi3⟩, hm⟩ := h1
    obtain ⟨⟨j, hj, hj2, hj3⟩, hn⟩ := h6
    have h8 := hm j hj hj2
    have h9 := hn i hi hi2
    rw [cost_snoc hl] at hj3 h9
    rw [hi3] at h9
    constructor
    · split at hj3 <;> omega
    · split at h9 <;> omega

theorem best_bnd {m : Nat} {ls ws : List (List Int)} {gs : List Int} (hf : Fair ws gs) (k : Nat) : 0 ≤ (bestTo m ls ws gs k).2.1 ∧ (bestTo m ls ws gs k).2.1 ≤ 10000 := by
  rcases best_is m ls ws gs k with ⟨_, h2⟩ | ⟨_, _, _, _, h5⟩
  · rw [h2]; exact ⟨Int.le_refl _, by decide⟩
  · rw [← h5]; exact cost_nn hf _

def soft (n : Int) (ls ws : List (List Int)) (gs : List Int) (fuel : Int) : Int × Int × List Bool × Int × Int :=
  if (softW n ls ws gs fuel).1 ≠ 0 then (0, 0, [], softW n ls ws gs fuel)
  else ((bestTo n.toNat ls ws gs (2 ^ n.toNat)).1, (bestTo n.toNat ls ws gs (2 ^ n.toNat)).2.1, (bestTo n.toNat ls ws gs (2 ^ n.toNat)).2.2, 0, 0)

theorem soft_one : soft 2 [[1, 2]] [[-1], [-2]] [3, 1] 2000 = (1, 1, [false, true], 0, 0) := by decide +kernel

theorem soft_bad {n : Int} {ls ws : List (List Int)} {gs : List Int} {fuel : Int} (h : (softW n ls ws gs fuel).1 ≠ 0) : soft n ls ws gs fuel = (0, 0, [], softW n ls ws gs fuel) := by
  rw [soft, if_pos h]
theorem soft_ok {n : Int} {ls ws : List (List Int)} {gs : List Int} {fuel : Int} (h : (softW n ls ws gs fuel).1 = 0) : soft n ls ws gs fuel = ((bestTo n.toNat ls ws gs (2 ^ n.toNat)).1, (bestTo n.toNat ls ws gs (2 ^ n.toNat)).2.1, (bestTo n.toNat ls ws gs (2 ^ n.toNat)).2.2, 0, 0) := by
  rw [soft, if_neg (fun x => x h)]

theorem soft_fair {n : Int} {ls ws : List (List Int)} {gs : List Int} {fuel : Int} (h : (softW n ls ws gs fuel).1 = 0) : Fair ws gs := by
  have ho := softW_ok h
  exact ⟨ho.2.1.1, ho.2.1.2, fun j hj => (ho.2.2.1 j hj).2⟩

theorem wrong_good {n : Int} {m : Nat} {l : List Int} (hm : (m : Int) = n) (h : (wrong n l).1 = 0) : Good m l := by
  intro x hx
  have := wrong_ok h x hx
  omega

theorem soft_good {n : Int} {m : Nat} {ls ws : List (List Int)} {gs : List Int} {fuel : Int} (hm : (m : Int) = n) (h : (softW n ls ws gs fuel).1 = 0) : ∀ l ∈ ws, Good m l := by
  have ho := softW_ok h
  intro l hl
  obtain ⟨i, hi, rfl⟩ := List.mem_iff_getElem.1 hl
  have := (ho.2.2.1 i hi).1
  rw [show ws.getD i [] = ws[i] by simp [List.getD, hi]] at this
  exact wrong_good hm this
end Sp
end Go.Um
