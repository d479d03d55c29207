/- Plain definitions and laws: trails. No program in sight. No condition. -/
import Derived.Test.YtpjenbbalengoaaSp1
namespace Go.Um
namespace Sp

def Fine (l : List Int) : Prop := ∀ x ∈ l, -9223372036854775808 < x ∧ x ≤ 9223372036854775807

def falseIn (l t : List Int) (but : Int) : Bool := l.all fun x => decide (x = but) || decide (-x ∈ t)
def free (t : List Int) (x : Int) : Bool := !decide (x ∈ t) && !decide (-x ∈ t)
def must (l t : List Int) : Int := match l.find? (free t) with
  | some x => if falseIn l t x = true then x else 0
  | none => 0

theorem find_at {α : Type} {p : α → Bool} {l : List α} {k : Nat} {z : α} (hk : k < l.length) (h : ∀ y ∈ l.take k, p y = false) (hp : p (l.getD k z) = true) : l.find? p = some (l.getD k z) := by
  have e : l = l.take k ++ (l.getD k z :: l.drop (k + 1)) := by
    have h1 : l.getD k z = l[k] := by simp [List.getD, List.getElem?_eq_getElem hk]
    rw [h1]
    exact (List.take_append_drop k l).symm.trans (by rw [List.drop_eq_getElem_cons hk])
  conv => lhs; rw [e]
  rw [List.find?_append, List.find?_eq_none.2 (fun y hy => by rw [h y hy]; decide)]
  simp only [Option.none_or]
  exact List.find?_cons_of_pos hp

theorem find_none {α : Type} {p : α → Bool} {l : List α} {i : Nat} (hi : l.length ≤ i) (h : ∀ y ∈ l.take i, p y = false) : l.find? p = none := by
  rw [List.take_of_length_le hi] at h
  rw [List.find?_eq_none]
  intro x hx
  rw [h x hx]
  decide

/-- The first place from m on with a property; -1: there is none. -/
def idxFrom {α : Type} (p : α → Bool) (l : List α) (m : Nat) : Int := match (l.drop m).findIdx? p with
  | some i => m + i
  | none => -1

theorem idxFrom_end {α : Type} (p : α → Bool) (l : List α) : idxFrom p l l.length = -1 := by simp [idxFrom]
theorem idxFrom_zero {α : Type} (p : α → Bool) (l : List α) : idxFrom p l 0 = idx p l := by
  simp only [idxFrom, idx, List.drop_zero]
  cases l.findIdx? p <;> simp
theorem idxFrom_step {α : Type} {p : α → Bool} {l : List α} {m : Nat} {z : α} (hm : m < l.length) : idxFrom p l m = if p (l.getD m z) = true then (m : Int) else idxFrom p l (m + 1) := by
  have h1 : l.getD m z = l[m] := by simp [List.getD, List.getElem?_eq_getElem hm]
  rw [h1]
  simp only [idxFrom]
  rw [List.drop_eq_getElem_cons hm, List.findIdx?_cons]
  by_cases h : p l[m] = true
  · simp [h]
  · simp only [Bool.not_eq_true] at h
    simp only [h, Bool.false_eq_true, if_false]
    cases (l.drop (m + 1)).findIdx? p <;> simp <;> omega

theorem idxFrom_range {α : Type} (p : α → Bool) (l : List α) (m : Nat) : idxFrom p l m = -1 ∨ (0 ≤ idxFrom p l m ∧ idxFrom p l m < l.length) := by
  unfold idxFrom
  cases h : (l.drop m).findIdx? p with
  | none => left; rfl
  | some i =>
    right
    rw [List.findIdx?_eq_some_iff_getElem] at h
    obtain ⟨h1, _⟩ := h
    simp at h1
    simp
    omega

theorem idxFrom_yes {α : Type} {p : α → Bool} {l : List α} {m : Nat} {z : α} (h1 : 1 ≤ m) (hm : m ≤ l.length) (h : p (l.getD ((m : Int) - 1).toNat z) = true) : idxFrom p l (m - 1) = (m : Int) - 1 := by
  have e : ((m : Int) - 1).toNat = m - 1 := by omega
  rw [e] at h
  rw [idxFrom_step (z := z) (by omega), if_pos h]
  omega
theorem idxFrom_no {α : Type} {p : α → Bool} {l : List α} {m : Nat} {z : α} (h1 : 1 ≤ m) (hm : m ≤ l.length) (h : p (l.getD ((m : Int) - 1).toNat z) = false) : idxFrom p l (m - 1) = idxFrom p l m := by
  have e : ((m : Int) - 1).toNat = m - 1 := by omega
  rw [e] at h
  rw [idxFrom_step (z := z) (by omega), if_neg (by rw [h]; decide), Nat.sub_add_cancel h1]

def conf (ls : List (List Int)) (t : List Int) : Int := idx (fun l => falseIn l t 0) ls
def unit (ls : List (List Int)) (t : List Int) : Int := idx (fun l => !decide (must l t = 0)) ls

/-- How many literals of clauses are not on a trail. -/
def room (ls : List (List Int)) (t : List Int) : Nat := (ls.flatten.filter fun x => !decide (x ∈ t)).length

theorem must_spec {l t : List Int} (h : must l t ≠ 0) : must l t ∈ l ∧ must l t ∉ t ∧ -must l t ∉ t ∧ falseIn l t (must l t) = true := by
  unfold must at h ⊢
  cases hf : l.find? (free t) with
  | none => rw [hf] at h; exact absurd rfl h
  | some x =>
    rw [hf] at h
    simp only at h ⊢
    by_cases hx : falseIn l t x = true
    · simp only [hx, if_true]
      have h1 := List.find?_some hf
      simp only [free, Bool.and_eq_true, Bool.not_eq_true', decide_eq_false_iff_not] at h1
      exact ⟨List.mem_of_find?_eq_some hf, h1.1, h1.2, trivial⟩
    · simp [hx] at h

theorem room_less {ls : List (List Int)} {t : List Int} {x : Int} (h1 : x ∈ ls.flatten) (h2 : x ∉ t) : room ls (t ++ [x]) < room ls t := by
  unfold room
  generalize ls.flatten = m at h1
  induction m with
  | nil => cases h1
  | cons y m ih =>
    have mono : ∀ k : List Int, (k.filter fun z => !decide (z ∈ t ++ [x])).length ≤ (k.filter fun z => !decide (z ∈ t)).length := by
      intro k
      induction k with
      | nil => simp
      | cons z k ih =>
        by_cases hz : z ∈ t
        · simp [hz]; simpa using ih
        · by_cases hzx : z = x
          · subst hzx; simp [h2]; have := ih; simp at this; omega
          · simp [hz, hzx]; simpa using ih
    rcases List.mem_cons.1 h1 with rfl | h
    · have := mono m
      simp [h2] at this ⊢
      omega
    · have := ih h
      by_cases hz : y ∈ t
      · simp [hz] at this ⊢; exact this
      · by_cases hzx : y = x
        · subst hzx; simp [h2] at this ⊢; omega
        · simp [hz, hzx] at this ⊢; exact this

theorem idx_mem {α : Type} {p : α → Bool} {l : List α} (z : α) (h : ¬ idx p l < 0) : (idx p l).toNat < l.length ∧ p (l.getD (idx p l).toNat z) = true := by
  unfold idx at h ⊢
  cases hf : l.findIdx? p with
  | none => rw [hf] at h; simp at h
  | some i =>
    rw [List.findIdx?_eq_some_iff_getElem] at hf
    obtain ⟨h1, h2, _⟩ := hf
    simp only [Int.toNat_natCast]
    exact ⟨h1, by simpa [List.getD, List.getElem?_eq_getElem h1] using h2⟩

theorem unit_mem {ls : List (List Int)} {t : List Int} (h : ¬ unit ls t < 0) : must (ls.getD (unit ls t).toNat []) t ≠ 0 ∧ ls.getD (unit ls t).toNat [] ∈ ls := by
  obtain ⟨h1, h2⟩ := idx_mem [] h
  simp only [Bool.not_eq_true', decide_eq_false_iff_not] at h2
  exact ⟨h2, getD_mem ls _ [] h1⟩

/-- P1: a trail goes on. -/
def on (ls : List (List Int)) (t w : List Int) : List Int × List Int × Int :=
  if 0 ≤ conf ls t then (t, w, conf ls t)
  else if h : unit ls t < 0 then (t, w, -1)
  else on ls (t ++ [must (ls.getD (unit ls t).toNat []) t]) (w ++ [unit ls t])
termination_by room ls t
decreasing_by
  obtain ⟨h1, h2⟩ := unit_mem h
  obtain ⟨h3, h4, _⟩ := must_spec h1
  exact room_less (List.mem_flatten.2 ⟨_, h2, h3⟩) h4

theorem on_step {ls : List (List Int)} {t : List Int} (hu : ¬ unit ls t < 0) : room ls (t ++ [must (ls.getD (unit ls t).toNat []) t]) < room ls t := by
  obtain ⟨h1, h2⟩ := unit_mem hu
  obtain ⟨h3, h4, _⟩ := must_spec h1
  exact room_less (List.mem_flatten.2 ⟨_, h2, h3⟩) h4
end Sp
end Go.Um
