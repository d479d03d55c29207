/- Plain facts: projections of models. No condition. -/
import Derived.Test.YtofonmfoificjaaSpF
namespace Go.Um
namespace Sp

/-- The number that an assignment is, seen at variables. -/
def keyTo (vars : List Int) (a : List Bool) : Nat → Nat
  | 0 => 0
  | j + 1 => 2 * keyTo vars a j + (a.getD (vars.getD j 0 - 1).toNat false).toNat
def key (vars : List Int) (a : List Bool) : Nat := keyTo vars a vars.length

theorem keyTo_lt (vars : List Int) (a : List Bool) : ∀ j, keyTo vars a j < 2 ^ j
  | 0 => by simp [keyTo]
  | j + 1 => by
    have := keyTo_lt vars a j
    have h2 : (a.getD (vars.getD j 0 - 1).toNat false).toNat ≤ 1 := Bool.toNat_le _
    simp only [keyTo, Nat.pow_succ]
    omega

theorem keyTo_yes {vars : List Int} {a : List Bool} {j : Nat} (h : a.getD (vars.getD j 0 - 1).toNat false = true) : keyTo vars a (j + 1) = 2 * keyTo vars a j + 1 := by rw [keyTo, h]; rfl
theorem keyTo_no {vars : List Int} {a : List Bool} {j : Nat} (h : a.getD (vars.getD j 0 - 1).toNat false = false) : keyTo vars a (j + 1) = 2 * keyTo vars a j := by rw [keyTo, h]; rfl

def seenL (m : Nat) (vars : List Int) (l : List Nat) : List Bool := (List.range (2 ^ vars.length)).map fun j => l.any fun (i : Nat) => decide (key vars (bits m i) = j)

theorem seenL_len (m : Nat) (vars : List Int) (l : List Nat) : (seenL m vars l).length = 2 ^ vars.length := by simp [seenL]
theorem seenL_nil (m : Nat) (vars : List Int) : seenL m vars [] = List.replicate (2 ^ vars.length) false := by
  apply List.ext_getElem (by simp [seenL])
  intro i h1 h2
  simp [seenL]
theorem seenL_snoc (m : Nat) (vars : List Int) (l : List Nat) (k : Nat) : seenL m vars (l ++ [k]) = (seenL m vars l).set (key vars (bits m k)) true := by
  apply List.ext_getElem (by simp [seenL])
  intro i h1 h2
  rw [List.getElem_set]
  simp only [seenL, List.getElem_map, List.getElem_range, List.any_append, List.any_cons, List.any_nil, Bool.or_false]
  split
  · rename_i e; simp [e]
  · rename_i e; simp [e]

def trueTo (s : List Bool) (t : Nat) : List Nat := (List.range t).filter fun j => s.getD j false
theorem trueTo_yes {s : List Bool} {t : Nat} (h : s.getD t false = true) : trueTo s (t + 1) = trueTo s t ++ [t] := by
  unfold trueTo; rw [List.range_succ, List.filter_append]; simp only [List.filter_cons, List.filter_nil, h, if_true]
theorem trueTo_no {s : List Bool} {t : Nat} (h : s.getD t false = false) : trueTo s (t + 1) = trueTo s t := by
  unfold trueTo; rw [List.range_succ, List.filter_append]; simp only [List.filter_cons, List.filter_nil, h, Bool.false_eq_true, if_false, List.append_nil]
theorem trueTo_len (s : List Bool) (t : Nat) : (trueTo s t).length ≤ t := by
  have := List.length_filter_le (fun j => s.getD j false) (List.range t)
  rw [List.length_range] at this
  exact this

/-- The projections. -/
def proj (m : Nat) (ls : List (List Int)) (vars : List Int) : List Nat := trueTo (seenL m vars (mods m ls)) (2 ^ vars.length)

theorem idx_le {α : Type} (p : α → Bool) (l : List α) : idx p l ≤ l.length := by
  unfold idx
  split
  · rename_i i e
    obtain ⟨h, _⟩ := List.findIdx?_eq_some_iff_getElem.1 e
    omega
  · omega

def neg0 (vars : List Int) : Int := idx (fun v => decide (v < 0)) vars
def varsW (n : Int) (vars : List Int) : Int × Int := if (listed n vars).1 ≠ 0 then listed n vars else if 0 ≤ neg0 vars then (3, -1 - neg0 vars) else (0, 0)

def onto (n : Int) (ls : List (List Int)) (vars : List Int) : List (List Bool) × (Int × Int) :=
  if (tryW n ls).1 ≠ 0 then ([], tryW n ls) else if (varsW n vars).1 ≠ 0 then ([], varsW n vars) else (asg vars.length (proj n.toNat ls vars), (0, 0))

theorem listedZ {n : Int} {l : List Int} (h : (listed n l).1 = 0) : listed n l = (0, 0) ∧ (wrong n l).1 = 0 := by
  unfold listed at h ⊢
  split at h
  · rename_i h1; exact absurd h h1
  · rename_i h1
    rw [if_neg h1]
    exact ⟨rfl, by omega⟩

theorem varsW_ok {n : Int} {vars : List Int} (h : (varsW n vars).1 = 0) : varsW n vars = (0, 0) ∧ (listed n vars).1 = 0 ∧ neg0 vars < 0 := by
  unfold varsW at h ⊢
  split at h
  · rename_i h1; exact absurd h h1
  · rename_i h1
    rw [if_neg h1]
    split at h
    · cases h
    · rename_i h2
      rw [if_neg h2]
      exact ⟨rfl, by omega, by omega⟩

/-- Different variables among so many. -/
theorem distinct_len : ∀ (m : Nat) (l : List Int), (∀ x ∈ l, 1 ≤ x ∧ x ≤ m) → l.Pairwise (fun x y => x ≠ y) → l.length ≤ m := by
  intro m
  induction m with
  | zero =>
    intro l h _
    cases l with
    | nil => simp
    | cons x l => have := h x (by simp); omega
  | succ m ih =>
    intro l h hp
    have hf := ih (l.filter (fun (x : Int) => decide (x ≠ ((m + 1 : Nat) : Int)))) (fun x hx => by
      simp only [List.mem_filter, decide_eq_true_eq] at hx
      have := h x hx.1
      omega) (hp.filter _)
    have hc : l.length ≤ (l.filter (fun (x : Int) => decide (x ≠ ((m + 1 : Nat) : Int)))).length + 1 := by
      clear ih hf h
      induction l with
      | nil => simp
      | cons x l ih2 =>
        rw [List.pairwise_cons] at hp
        by_cases e : x = ((m + 1 : Nat) : Int)
        · have : l.filter (fun (x : Int) => decide (x ≠ ((m + 1 : Nat) : Int))) = l := by
            rw [List.filter_eq_self]
            intro y hy
            have := hp.1 y hy
            simp only [ne_eq, decide_eq_true_eq]
            omega
          simp only [List.filter_cons, e, ne_eq, not_true_eq_false, decide_false, Bool.false_eq_true, if_false, List.length_cons]
          simp only [ne_eq] at this
          rw [this]
          exact Nat.le_refl _
        · have := ih2 hp.2
          simp only [List.filter_cons, ne_eq, e, not_false_eq_true, decide_true, if_true, List.length_cons]
          simp only [ne_eq] at this
          omega
    omega

theorem vars_ok {m : Nat} {vars : List Int} (h : (varsW m vars).1 = 0) : (∀ v ∈ vars, 1 ≤ v ∧ v ≤ m) ∧ vars.length ≤ m ∧ vars.Pairwise (fun x y => x ≠ y) := by
  obtain ⟨_, h2, h3⟩ := varsW_ok h
  have h4 := wrong_iff.1 (listedZ h2).2
  have hn : ∀ v ∈ vars, ¬ v < 0 := by
    intro v hv hlt
    have : vars.any (fun v => decide (v < 0)) = true := List.any_eq_true.2 ⟨v, hv, by simpa using hlt⟩
    rw [← idx_any] at this
    simp only [decide_eq_true_eq] at this
    unfold neg0 at h3
    omega
  have h5 : ∀ v ∈ vars, 1 ≤ v ∧ v ≤ m := fun v hv => by have := h4.1 v hv; have := hn v hv; omega
  have h6 : vars.Pairwise (fun x y => x ≠ y) := h4.2.imp (fun h e => h (by rw [e]))
  exact ⟨h5, distinct_len m vars h5 h6, h6⟩

theorem ofN_get (l : List Nat) (i : Nat) : (ofN l).getD i 0 = ((l.getD i 0 : Nat) : Int) := by
  simp only [ofN, List.getD, List.getElem?_map]
  cases l[i]? <;> rfl

theorem seen_step {m : Nat} {ls : List (List Int)} {vars : List Int} {i : Nat} (h : i < (mods m ls).length) : seenL m vars ((mods m ls).take (i + 1)) = (seenL m vars ((mods m ls).take i)).set (keyTo vars (bits m ((ofN (mods m ls)).getD i 0)) vars.length) true := by
  rw [take_getD _ i 0 h, seenL_snoc, ofN_get]
  rfl

end Sp
end Go.Um
