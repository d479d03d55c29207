/- Plain definitions and laws: clauses. No program in sight. No condition. -/
import Derived.Test.YtpjenbbalengoaaSp0
namespace Go.Um
namespace Sp

theorem take_getD {α : Type} (l : List α) (i : Nat) (z : α) (h : i < l.length) : l.take (i + 1) = l.take i ++ [l.getD i z] := by
  rw [List.take_add_one, List.getElem?_eq_getElem h]
  simp [List.getD, List.getElem?_eq_getElem h]

theorem getD_mem {α : Type} (l : List α) (i : Nat) (z : α) (h : i < l.length) : l.getD i z ∈ l := by
  simp only [List.getD, List.getElem?_eq_getElem h, Option.getD_some]
  exact List.getElem_mem h

theorem getD_take {α : Type} (l : List α) (i j : Nat) (z : α) (h : j < i) : (l.take i).getD j z = l.getD j z := by
  simp [List.getD, List.getElem?_take, h]

/-- The place of the first element with a property; -1: there is none. -/
def idx {α : Type} (p : α → Bool) (l : List α) : Int := match l.findIdx? p with
  | some i => i
  | none => -1

theorem idx_at {α : Type} {p : α → Bool} {l : List α} {k : Nat} {z : α} (hk : k < l.length) (h : ∀ y ∈ l.take k, p y = false) (hp : p (l.getD k z) = true) : idx p l = k := by
  have : l.findIdx? p = some k := by
    rw [List.findIdx?_eq_some_iff_getElem]
    refine ⟨hk, ?_, fun j hj => ?_⟩
    · simpa [List.getD, List.getElem?_eq_getElem hk] using hp
    · have := h (l[j]'(by omega)) (by rw [List.mem_take_iff_getElem]; exact ⟨j, by omega, rfl⟩)
      simp [this]
  simp [idx, this]

theorem idx_none {α : Type} {p : α → Bool} {l : List α} (h : ∀ y ∈ l, p y = false) : idx p l = -1 := by
  have : l.findIdx? p = none := by
    rw [List.findIdx?_eq_none_iff]
    exact h
  simp [idx, this]

theorem idx_any {α : Type} (p : α → Bool) (l : List α) : decide (0 ≤ idx p l) = l.any p := by
  unfold idx
  cases h : l.findIdx? p with
  | none =>
    rw [List.findIdx?_eq_none_iff] at h
    have : l.any p = false := by rw [List.any_eq_false]; intro x hx; simp [h x hx]
    simp [this]
  | some i =>
    rw [List.findIdx?_eq_some_iff_getElem] at h
    obtain ⟨h1, h2, _⟩ := h
    have : l.any p = true := by rw [List.any_eq_true]; exact ⟨_, List.getElem_mem h1, h2⟩
    simp [this]

/-- Is the variable of element i one of an earlier element? -/
def dup (l : List Int) (i : Nat) : Bool := (l.take i).any fun y => decide (max y (-y) = max (l.getD i 0) (-l.getD i 0))

theorem dup_iff (l : List Int) (i : Nat) : dup l i = (decide (l.getD i 0 ∈ l.take i) || decide (-l.getD i 0 ∈ l.take i)) := by
  rw [Bool.eq_iff_iff]
  simp only [dup, List.any_eq_true, decide_eq_true_eq, Bool.or_eq_true]
  generalize l.getD i 0 = x
  constructor
  · rintro ⟨y, hy, e⟩
    have : y = x ∨ y = -x := by omega
    rcases this with rfl | rfl
    · exact .inl hy
    · exact .inr hy
  · rintro (h | h)
    · exact ⟨x, h, rfl⟩
    · exact ⟨-x, h, by omega⟩

/-- C1: what is wrong with literals: a code, and the place. -/
def wrongFrom (n : Int) (l : List Int) (i : Nat) : Int × Int :=
  if i < l.length then
    if l.getD i 0 = 0 ∨ l.getD i 0 < -n ∨ n < l.getD i 0 then (3, i)
    else if dup l i = true then (7, i) else wrongFrom n l (i + 1)
  else (0, 0)
termination_by l.length - i
def wrong (n : Int) (l : List Int) : Int × Int := wrongFrom n l 0

def checkFrom (n : Int) (ls : List (List Int)) (i : Nat) : Int × Int :=
  if i < ls.length then
    if 24 < (ls.getD i []).length then (2, i)
    else if (wrong n (ls.getD i [])).1 ≠ 0 then ((wrong n (ls.getD i [])).1, i)
    else checkFrom n ls (i + 1)
  else (0, 0)
termination_by ls.length - i
def check (n : Int) (ls : List (List Int)) : Int × Int :=
  if n < 0 ∨ 120 < n then (3, 0) else if 400 < ls.length then (2, 0) else checkFrom n ls 0

/-- Literals beside clauses. -/
def listed (n : Int) (l : List Int) : Int × Int := if (wrong n l).1 ≠ 0 then ((wrong n l).1, -1 - (wrong n l).2) else (0, 0)
def beside (n : Int) (ls : List (List Int)) (l : List Int) : Int × Int := if (check n ls).1 = 0 then listed n l else check n ls
def withA (n : Int) (ls : List (List Int)) (m : Nat) : Int × Int := if (check n ls).1 = 0 ∧ (m : Int) ≠ n then (9, -1) else check n ls

/-- Does a literal hold? -/
def lit (a : List Bool) (x : Int) : Bool := if 0 < x then a.getD (x - 1).toNat false else !a.getD (-x - 1).toNat false
def sat (a : List Bool) (l : List Int) : Bool := l.any (lit a)
def all (a : List Bool) (ls : List (List Int)) : Bool := ls.all (sat a)

/-- Literals over so many variables. -/
def Good (n : Nat) (l : List Int) : Prop := ∀ x ∈ l, x ≠ 0 ∧ -(n : Int) ≤ x ∧ x ≤ n

def bits (n : Nat) (w : Int) : List Bool := (List.range n).map fun i => decide (w / 2 ^ (n - 1 - i) % 2 = 1)

theorem bits_length (n : Nat) (w : Int) : (bits n w).length = n := by simp [bits]

theorem bits_take {n : Nat} {w : Int} {k : Nat} (hk : k < n) : (bits n w).take (k + 1) = (bits n w).take k ++ [decide (w / 2 ^ (n - 1 - k) % 2 = 1)] := by
  rw [take_getD _ _ false (by rw [bits_length]; exact hk)]
  simp [bits, List.getD, hk]

def flip (a : List Bool) (v : Int) : List Bool := a.set (v - 1).toNat (!a.getD (v - 1).toNat false)
def brk (a : List Bool) (v : Int) (l : List Int) : Bool := sat a l && !sat (flip a v) l
def breaks (ls : List (List Int)) (a : List Bool) (v : Int) : Nat := (ls.filter (brk a v)).length
theorem flip_length (a : List Bool) (v : Int) : (flip a v).length = a.length := by simp [flip]
theorem filter_yes {α : Type} {p : α → Bool} {l : List α} {i : Nat} {z : α} (hi : i < l.length) (h : p (l.getD i z) = true) : ((l.take (i + 1)).filter p).length = ((l.take i).filter p).length + 1 := by
  rw [take_getD l i z hi, List.filter_append, List.length_append, List.filter_cons_of_pos h]
  rfl
theorem filter_no {α : Type} {p : α → Bool} {l : List α} {i : Nat} {z : α} (hi : i < l.length) (h : p (l.getD i z) = false) : ((l.take (i + 1)).filter p).length = ((l.take i).filter p).length := by
  rw [take_getD l i z hi, List.filter_append, List.length_append, List.filter_cons_of_neg (by rw [h]; decide)]
  rfl
theorem filter_at {α : Type} (p : α → Bool) (l : List α) (i : Nat) : ((l.take i).filter p).length ≤ i := Nat.le_trans (List.length_filter_le _ _) (List.length_take_le _ _)

theorem wrong_ok {n : Int} {l : List Int} (h : (wrong n l).1 = 0) : ∀ x ∈ l, x ≠ 0 ∧ -n ≤ x ∧ x ≤ n := by
  have key : ∀ i, (wrongFrom n l i).1 = 0 → ∀ j, i ≤ j → (hj : j < l.length) → l[j] ≠ 0 ∧ -n ≤ l[j] ∧ l[j] ≤ n := by
    intro i
    induction hm : l.length - i generalizing i with
    | zero => intro _ j h1 h2; omega
    | succ m ih =>
      intro h j h1 h2
      rw [wrongFrom, if_pos (by omega)] at h
      split at h
      · simp at h
      · rename_i hr
        split at h
        · simp at h
        · by_cases e : j = i
          · subst e
            simp only [List.getD, List.getElem?_eq_getElem h2, Option.getD_some] at hr
            omega
          · exact ih (i + 1) (by omega) h j (by omega) h2
  intro x hx
  obtain ⟨j, hj, rfl⟩ := List.getElem_of_mem hx
  exact key 0 h j (Nat.zero_le _) hj

theorem wrong_code (n : Int) (l : List Int) : (wrong n l).1 = 0 ∨ (wrong n l).1 = 3 ∨ (wrong n l).1 = 7 := by
  have key : ∀ i, (wrongFrom n l i).1 = 0 ∨ (wrongFrom n l i).1 = 3 ∨ (wrongFrom n l i).1 = 7 := by
    intro i
    induction hm : l.length - i generalizing i with
    | zero => rw [wrongFrom, if_neg (by omega)]; exact .inl rfl
    | succ m ih =>
      rw [wrongFrom, if_pos (by omega)]
      split
      · exact .inr (.inl rfl)
      · split
        · exact .inr (.inr rfl)
        · exact ih (i + 1) (by omega)
  exact key 0

theorem wrong_at (n : Int) (l : List Int) : 0 ≤ (wrong n l).2 ∧ (wrong n l).2 ≤ l.length := by
  have key : ∀ i, 0 ≤ (wrongFrom n l i).2 ∧ (wrongFrom n l i).2 ≤ l.length := by
    intro i
    induction hm : l.length - i generalizing i with
    | zero => rw [wrongFrom, if_neg (by omega)]; simp
    | succ m ih =>
      rw [wrongFrom, if_pos (by omega)]
      split
      · simp; omega
      · split
        · simp; omega
        · exact ih (i + 1) (by omega)
  exact key 0

theorem check_ok {n : Int} {ls : List (List Int)} (h : (check n ls).1 = 0) : (0 ≤ n ∧ n ≤ 120) ∧ ls.length ≤ 400 ∧ ∀ l ∈ ls, l.length ≤ 24 ∧ (wrong n l).1 = 0 := by
  unfold check at h
  split at h
  · exact absurd h (by decide)
  · rename_i h1
    split at h
    · exact absurd h (by decide)
    · rename_i h2
      refine ⟨by omega, by omega, ?_⟩
      have key : ∀ i, (checkFrom n ls i).1 = 0 → ∀ j, i ≤ j → (hj : j < ls.length) → ls[j].length ≤ 24 ∧ (wrong n ls[j]).1 = 0 := by
        intro i
        induction hm : ls.length - i generalizing i with
        | zero => intro _ j h1 h2; omega
        | succ m ih =>
          intro h j h1 h2
          rw [checkFrom, if_pos (by omega)] at h
          split at h
          · simp at h
          · rename_i hr
            split at h
            · rename_i hr2; exact absurd h hr2
            · rename_i hr2
              by_cases e : j = i
              · subst e
                simp only [List.getD, List.getElem?_eq_getElem h2, Option.getD_some] at hr hr2
                exact ⟨by omega, by simpa using hr2⟩
              · exact ih (i + 1) (by omega) h j (by omega) h2
      intro l hl
      obtain ⟨j, hj, rfl⟩ := List.getElem_of_mem hl
      exact key 0 h j (Nat.zero_le _) hj

theorem check_zero {n : Int} {ls : List (List Int)} (h : (check n ls).1 = 0) : check n ls = (0, 0) := by
  unfold check at h ⊢
  split at h
  · simp at h
  · rename_i h1
    rw [if_neg h1]
    split at h
    · simp at h
    · rename_i h2
      rw [if_neg h2]
      have key : ∀ i, (checkFrom n ls i).1 = 0 → checkFrom n ls i = (0, 0) := by
        intro i
        induction hm : ls.length - i generalizing i with
        | zero => intro _; rw [checkFrom, if_neg (by omega)]
        | succ m ih =>
          intro h
          rw [checkFrom, if_pos (by omega)] at h ⊢
          split at h
          · simp at h
          · rename_i h3
            rw [if_neg h3]
            split at h
            · rename_i h4; exact absurd h h4
            · rename_i h4
              rw [if_neg h4]
              exact ih (i + 1) (by omega) h
      exact key 0 h

theorem wrong_zero {n : Int} {l : List Int} (h : (wrong n l).1 = 0) : wrong n l = (0, 0) := by
  have key : ∀ i, (wrongFrom n l i).1 = 0 → wrongFrom n l i = (0, 0) := by
    intro i
    induction hm : l.length - i generalizing i with
    | zero => intro _; rw [wrongFrom, if_neg (by omega)]
    | succ m ih =>
      intro h
      rw [wrongFrom, if_pos (by omega)] at h ⊢
      split at h
      · simp at h
      · rename_i h3
        rw [if_neg h3]
        split at h
        · simp at h
        · rename_i h4
          rw [if_neg h4]
          exact ih (i + 1) (by omega) h
  exact key 0 h

theorem lit_iff {a : List Bool} {x : Int} (hx : x ≠ 0) : lit a x = true ↔ (0 < x ∧ a.getD (x - 1).toNat false = true) ∨ (x < 0 ∧ a.getD (-x - 1).toNat false = false) := by
  unfold lit
  by_cases h : 0 < x
  · rw [if_pos h]
    exact ⟨fun e => .inl ⟨h, e⟩, fun e => e.elim (fun e => e.2) (fun e => by omega)⟩
  · rw [if_neg h, Bool.not_eq_true']
    exact ⟨fun e => .inr ⟨by omega, e⟩, fun e => e.elim (fun e => by omega) (fun e => e.2)⟩

theorem any_of {α : Type} {p : α → Bool} {l : List α} {i : Nat} {z : α} (hi : i < l.length) (h : p (l.getD i z) = true) : l.any p = true := List.any_eq_true.2 ⟨_, getD_mem l i z hi, h⟩
theorem any_none {α : Type} {p : α → Bool} {l : List α} {i : Nat} (hi : l.length ≤ i) (h : ∀ y ∈ l.take i, p y = false) : l.any p = false := by
  rw [List.take_of_length_le hi] at h
  rw [List.any_eq_false]
  intro x hx
  rw [h x hx]
  decide
theorem all_not {α : Type} {p : α → Bool} {l : List α} {i : Nat} {z : α} (hi : i < l.length) (h : p (l.getD i z) = false) : l.all p = false := List.all_eq_false.2 ⟨_, getD_mem l i z hi, by rw [h]; decide⟩
theorem all_end {α : Type} {p : α → Bool} {l : List α} {i : Nat} (hi : l.length ≤ i) (h : ∀ y ∈ l.take i, p y = true) : l.all p = true := by
  rw [List.take_of_length_le hi] at h
  exact List.all_eq_true.2 h
theorem step_all {α : Type} {P : α → Prop} {l : List α} {i : Nat} {z : α} (hi : i < l.length) (h : ∀ y ∈ l.take i, P y) (h' : P (l.getD i z)) : ∀ y ∈ l.take (i + 1), P y := by
  rw [take_getD l i z hi]
  intro y hy
  rcases List.mem_append.1 hy with h1 | h1
  · exact h y h1
  · rw [List.mem_singleton.1 h1]; exact h'

theorem bits_fill {n : Nat} {w : Int} {i : Nat} (hi : i < n) : ((bits n w).take i ++ List.replicate (n - i) false).set i (decide (w / 2 ^ (n - 1 - i) % 2 = 1)) = (bits n w).take (i + 1) ++ List.replicate (n - (i + 1)) false := by
  rw [bits_take hi, List.set_append_right _ _ (by simp [bits_length]; omega)]
  have e1 : i - ((bits n w).take i).length = 0 := by simp [bits_length]; omega
  have e2 : n - i = (n - (i + 1)) + 1 := by omega
  rw [e1, e2, List.replicate_succ, List.set_cons_zero, List.append_assoc]
  rfl

theorem with_ok {n : Int} {ls : List (List Int)} {a : List Bool} (h : (withA n ls a.length).1 = 0) : (a.length : Int) = n ∧ ∀ l ∈ ls, Good a.length l := by
  unfold withA at h
  split at h
  · simp at h
  · rename_i h1
    have hl : (a.length : Int) = n := by
      by_cases e : (a.length : Int) = n
      · exact e
      · exact absurd ⟨h, e⟩ h1
    refine ⟨hl, fun l hll x hx => ?_⟩
    rw [hl]
    exact wrong_ok ((check_ok h).2.2 l hll).2 x hx

theorem with_zero {n : Int} {ls : List (List Int)} {m : Nat} (h : (withA n ls m).1 = 0) : withA n ls m = (0, 0) := by
  unfold withA at h ⊢
  split at h
  · simp at h
  · rename_i h1
    rw [if_neg h1]
    exact check_zero h

def breaksOf (n : Int) (ls : List (List Int)) (a : List Bool) (v : Int) : Int × Int × Int :=
  if (withA n ls a.length).1 ≠ 0 then (0, withA n ls a.length) else if v < 1 ∨ n < v then (0, 3, -1) else (breaks ls a v, 0, 0)
end Sp
end Go.Um
