/- Plain functions: what the Go functions compute. No condition. -/

namespace Go.Um.Sp

def parityWrongFrom (n : Int) (zs : List Int) (k : Nat) : Int :=
  if h : k < zs.length then
    if zs.getD k 0 < 1 ∨ n < zs.getD k 0 then 3
    else if 0 < k ∧ zs.getD k 0 ≤ zs.getD (k - 1) 0 then 5
    else parityWrongFrom n zs (k + 1)
  else 0
termination_by zs.length - k
def parityWrong (n : Int) (zs : List Int) : Int := parityWrongFrom n zs 0

def parCheckFrom (n : Int) (l : List (List Int × Bool)) (i : Nat) : Int × Int :=
  if h : i < l.length then
    if parityWrong n (l.getD i ([], false)).1 ≠ 0 then (parityWrong n (l.getD i ([], false)).1, i)
    else parCheckFrom n l (i + 1)
  else (0, 0)
termination_by l.length - i
def parCheck (n : Int) (l : List (List Int × Bool)) : Int × Int :=
  if n < 0 ∨ 120 < n then (3, 0) else if 400 < l.length then (2, 0) else parCheckFrom n l 0

end Go.Um.Sp

/- Plain definitions and laws: clauses. No program in sight. No condition. -/

namespace Go.Um
namespace Sp

theorem take_getD {α : Type} (l : List α) (i : Nat) (z : α) (h : i < l.length) : l.take (i + 1) = l.take i ++ [l.getD i z] := by
  rw [List.take_add_one, List.getElem?_eq_getElem h]
  simp [List.getD, List.getElem?_eq_getElem h]

theorem getD_mem {α : Type} (l : List α) (i : Nat) (z : α) (h : i < l.length) : l.getD i z ∈ l := by
  simp only [List.getD, List.getElem?_eq_getElem h, Option.getD_some]
  exact List.getElem_mem h

theorem getD_take {α : Type} (l : List α) (i j : Nat) (z : α) (h : j < i) : (l.take i).getD j z = l.getD j z := by
  simp [List.getD, List.getElem?_take, h]

/-- The place of the first element with a property; -1: there is none. -/
def idx {α : Type} (p : α → Bool) (l : List α) : Int := match l.findIdx? p with
  | some i => i
  | none => -1

theorem idx_at {α : Type} {p : α → Bool} {l : List α} {k : Nat} {z : α} (hk : k < l.length) (h : ∀ y ∈ l.take k, p y = false) (hp : p (l.getD k z) = true) : idx p l = k := by
  have : l.findIdx? p = some k := by
    rw [List.findIdx?_eq_some_iff_getElem]
    refine ⟨hk, ?_, fun j hj => ?_⟩
    · simpa [List.getD, List.getElem?_eq_getElem hk] using hp
    · have := h (l[j]'(by omega)) (by rw [List.mem_take_iff_getElem]; exact ⟨j, by omega, rfl⟩)
      simp [this]
  simp [idx, this]

theorem idx_none {α : Type} {p : α → Bool} {l : List α} (h : ∀ y ∈ l, p y = false) : idx p l = -1 := by
  have : l.findIdx? p = none := by
    rw [List.findIdx?_eq_none_iff]
    exact h
  simp [idx, this]

theorem idx_any {α : Type} (p : α → Bool) (l : List α) : decide (0 ≤ idx p l) = l.any p := by
  unfold idx
  cases h : l.findIdx? p with
  | none =>
    rw [List.findIdx?_eq_none_iff] at h
    have : l.any p = false := by rw [List.any_eq_false]; intro x hx; simp [h x hx]
    simp [this]
  | some i =>
    rw [List.findIdx?_eq_some_iff_getElem] at h
    obtain ⟨h1, h2, _⟩ := h
    have : l.any p = true := by rw [List.any_eq_true]; exact ⟨_, List.getElem_mem h1, h2⟩
    simp [this]

/-- Is the variable of element i one of an earlier element? -/
def dup (l : List Int) (i : Nat) : Bool := (l.take i).any fun y => decide (max y (-y) = max (l.getD i 0) (-l.getD i 0))

theorem dup_iff (l : List Int) (i : Nat) : dup l i = (decide (l.getD i 0 ∈ l.take i) || decide (-l.getD i 0 ∈ l.take i)) := by
  rw [Bool.eq_iff_iff]
  simp only [dup, List.any_eq_true, decide_eq_true_eq, Bool.or_eq_true]
  generalize l.getD i 0 = x
  constructor
  · rintro ⟨y, hy, e⟩
    have : y = x ∨ y = -x := by omega
    rcases this with rfl | rfl
    · exact .inl hy
    · exact .inr hy
  · rintro (h | h)
    · exact ⟨x, h, rfl⟩
    · exact ⟨-x, h, by omega⟩

/-- C1: what is wrong with literals: a code, and the place. -/
def wrongFrom (n : Int) (l : List Int) (i : Nat) : Int × Int :=
  if i < l.length then
    if l.getD i 0 = 0 ∨ l.getD i 0 < -n ∨ n < l.getD i 0 then (3, i)
    else if dup l i = true then (7, i) else wrongFrom n l (i + 1)
  else (0, 0)
termination_by l.length - i
def wrong (n : Int) (l : List Int) : Int × Int := wrongFrom n l 0

def checkFrom (n : Int) (ls : List (List Int)) (i : Nat) : Int × Int :=
  if i < ls.length then
    if 24 < (ls.getD i []).length then (2, i)
    else if (wrong n (ls.getD i [])).1 ≠ 0 then ((wrong n (ls.getD i [])).1, i)
    else checkFrom n ls (i + 1)
  else (0, 0)
termination_by ls.length - i
def check (n : Int) (ls : List (List Int)) : Int × Int :=
  if n < 0 ∨ 120 < n then (3, 0) else if 400 < ls.length then (2, 0) else checkFrom n ls 0

/-- Literals beside clauses. -/
def listed (n : Int) (l : List Int) : Int × Int := if (wrong n l).1 ≠ 0 then ((wrong n l).1, -1 - (wrong n l).2) else (0, 0)
def beside (n : Int) (ls : List (List Int)) (l : List Int) : Int × Int := if (check n ls).1 = 0 then listed n l else check n ls
def withA (n : Int) (ls : List (List Int)) (m : Nat) : Int × Int := if (check n ls).1 = 0 ∧ (m : Int) ≠ n then (9, -1) else check n ls

/-- Does a literal hold? -/
def lit (a : List Bool) (x : Int) : Bool := if 0 < x then a.getD (x - 1).toNat false else !a.getD (-x - 1).toNat false
def sat (a : List Bool) (l : List Int) : Bool := l.any (lit a)
def all (a : List Bool) (ls : List (List Int)) : Bool := ls.all (sat a)

/-- Literals over so many variables. -/
def Good (n : Nat) (l : List Int) : Prop := ∀ x ∈ l, x ≠ 0 ∧ -(n : Int) ≤ x ∧ x ≤ n

def bits (n : Nat) (w : Int) : List Bool := (List.range n).map fun i => decide (w / 2 ^ (n - 1 - i) % 2 = 1)

theorem bits_length (n : Nat) (w : Int) : (bits n w).length = n := by simp [bits]

theorem bits_take {n : Nat} {w : Int} {k : Nat} (hk : k < n) : (bits n w).take (k + 1) = (bits n w).take k ++ [decide (w / 2 ^ (n - 1 - k) % 2 = 1)] := by
  rw [take_getD _ _ false (by rw [bits_length]; exact hk)]
  simp [bits, List.getD, hk]

def flip (a : List Bool) (v : Int) : List Bool := a.set (v - 1).toNat (!a.getD (v - 1).toNat false)
def brk (a : List Bool) (v : Int) (l : List Int) : Bool := sat a l && !sat (flip a v) l
def breaks (ls : List (List Int)) (a : List Bool) (v : Int) : Nat := (ls.filter (brk a v)).length
theorem flip_length (a : List Bool) (v : Int) : (flip a v).length = a.length := by simp [flip]
theorem filter_yes {α : Type} {p : α → Bool} {l : List α} {i : Nat} {z : α} (hi : i < l.length) (h : p (l.getD i z) = true) : ((l.take (i + 1)).filter p).length = ((l.take i).filter p).length + 1 := by
  rw [take_getD l i z hi, List.filter_append, List.length_append, List.filter_cons_of_pos h]
  rfl
theorem filter_no {α : Type} {p : α → Bool} {l : List α} {i : Nat} {z : α} (hi : i < l.length) (h : p (l.getD i z) = false) : ((l.take (i + 1)).filter p).length = ((l.take i).filter p).length := by
  rw [take_getD l i z hi, List.filter_append, List.length_append, List.filter_cons_of_neg (by rw [h]; decide)]
  rfl
theorem filter_at {α : Type} (p : α → Bool) (l : List α) (i : Nat) : ((l.take i).filter p).length ≤ i := Nat.le_trans (List.length_filter_le _ _) (List.length_take_le _ _)

theorem wrong_ok {n : Int} {l : List Int} (h : (wrong n l).1 = 0) : ∀ x ∈ l, x ≠ 0 ∧ -n ≤ x ∧ x ≤ n := by
  have key : ∀ i, (wrongFrom n l i).1 = 0 → ∀ j, i ≤ j → (hj : j < l.length) → l[j] ≠ 0 ∧ -n ≤ l[j] ∧ l[j] ≤ n := by
    intro i
    induction hm : l.length - i generalizing i with
    | zero => intro _ j h1 h2; omega
    | succ m ih =>
      intro h j h1 h2
      rw [wrongFrom, if_pos (by omega)] at h
      split at h
      · simp at h
      · rename_i hr
        split at h
        · simp at h
        · by_cases e : j = i
          · subst e
            simp only [List.getD, List.getElem?_eq_getElem h2, Option.getD_some] at hr
            omega
          · exact ih (i + 1) (by omega) h j (by omega) h2
  intro x hx
  obtain ⟨j, hj, rfl⟩ := List.getElem_of_mem hx
  exact key 0 h j (Nat.zero_le _) hj

theorem wrong_code (n : Int) (l : List Int) : (wrong n l).1 = 0 ∨ (wrong n l).1 = 3 ∨ (wrong n l).1 = 7 := by
  have key : ∀ i, (wrongFrom n l i).1 = 0 ∨ (wrongFrom n l i).1 = 3 ∨ (wrongFrom n l i).1 = 7 := by
    intro i
    induction hm : l.length - i generalizing i with
    | zero => rw [wrongFrom, if_neg (by omega)]; exact .inl rfl
    | succ m ih =>
      rw [wrongFrom, if_pos (by omega)]
      split
      · exact .inr (.inl rfl)
      · split
        · exact .inr (.inr rfl)
        · exact ih (i + 1) (by omega)
  exact key 0

theorem wrong_at (n : Int) (l : List Int) : 0 ≤ (wrong n l).2 ∧ (wrong n l).2 ≤ l.length := by
  have key : ∀ i, 0 ≤ (wrongFrom n l i).2 ∧ (wrongFrom n l i).2 ≤ l.length := by
    intro i
    induction hm : l.length - i generalizing i with
    | zero => rw [wrongFrom, if_neg (by omega)]; simp
    | succ m ih =>
      rw [wrongFrom, if_pos (by omega)]
      split
      · simp; omega
      · split
        · simp; omega
        · exact ih (i + 1) (by omega)
  exact key 0

theorem check_ok {n : Int} {ls : List (List Int)} (h : (check n ls).1 = 0) : (0 ≤ n ∧ n ≤ 120) ∧ ls.length ≤ 400 ∧ ∀ l ∈ ls, l.length ≤ 24 ∧ (wrong n l).1 = 0 := by
  unfold check at h
  split at h
  · exact absurd h (by decide)
  · rename_i h1
    split at h
    · exact absurd h (by decide)
    · rename_i h2
      refine ⟨by omega, by omega, ?_⟩
      have key : ∀ i, (checkFrom n ls i).1 = 0 → ∀ j, i ≤ j → (hj : j < ls.length) → ls[j].length ≤ 24 ∧ (wrong n ls[j]).1 = 0 := by
        intro i
        induction hm : ls.length - i generalizing i with
        | zero => intro _ j h1 h2; omega
        | succ m ih =>
          intro h j h1 h2
          rw [checkFrom, if_pos (by omega)] at h
          split at h
          · simp at h
          · rename_i hr
            split at h
            · rename_i hr2; exact absurd h hr2
            · rename_i hr2
              by_cases e : j = i
              · subst e
                simp only [List.getD, List.getElem?_eq_getElem h2, Option.getD_some] at hr hr2
                exact ⟨by omega, by simpa using hr2⟩
              · exact ih (i + 1) (by omega) h j (by omega) h2
      intro l hl
      obtain ⟨j, hj, rfl⟩ := List.getElem_of_mem hl
      exact key 0 h j (Nat.zero_le _) hj

theorem check_zero {n : Int} {ls : List (List Int)} (h : (check n ls).1 = 0) : check n ls = (0, 0) := by
  unfold check at h ⊢
  split at h
  · simp at h
  · rename_i h1
    rw [if_neg h1]
    split at h
    · simp at h
    · rename_i h2
      rw [if_neg h2]
      have key : ∀ i, (checkFrom n ls i).1 = 0 → checkFrom n ls i = (0, 0) := by
        intro i
        induction hm : ls.length - i generalizing i with
        | zero => intro _; rw [checkFrom, if_neg (by omega)]
        | succ m ih =>
          intro h
          rw [checkFrom, if_pos (by omega)] at h ⊢
          split at h
          · simp at h
          · rename_i h3
            rw [if_neg h3]
            split at h
            · rename_i h4; exact absurd h h4
            · rename_i h4
              rw [if_neg h4]
              exact ih (i + 1) (by omega) h
      exact key 0 h

theorem wrong_zero {n : Int} {l : List Int} (h : (wrong n l).1 = 0) : wrong n l = (0, 0) := by
  have key : ∀ i, (wrongFrom n l i).1 = 0 → wrongFrom n l i = (0, 0) := by
    intro i
    induction hm : l.length - i generalizing i with
    | zero => intro _; rw [wrongFrom, if_neg (by omega)]
    | succ m ih =>
      intro h
      rw [wrongFrom, if_pos (by omega)] at h ⊢
      split at h
      · simp at h
      · rename_i h3
        rw [if_neg h3]
        split at h
        · simp at h
        · rename_i h4
          rw [if_neg h4]
          exact ih (i + 1) (by omega) h
  exact key 0 h

theorem lit_iff {a : List Bool} {x : Int} (hx : x ≠ 0) : lit a x = true ↔ (0 < x ∧ a.getD (x - 1).toNat false = true) ∨ (x < 0 ∧ a.getD (-x - 1).toNat false = false) := by
  unfold lit
  by_cases h : 0 < x
  · rw [if_pos h]
    exact ⟨fun e => .inl ⟨h, e⟩, fun e => e.elim (fun e => e.2) (fun e => by omega)⟩
  · rw [if_neg h, Bool.not_eq_true']
    exact ⟨fun e => .inr ⟨by omega, e⟩, fun e => e.elim (fun e => by omega) (fun e => e.2)⟩

theorem any_of {α : Type} {p : α → Bool} {l : List α} {i : Nat} {z : α} (hi : i < l.length) (h : p (l.getD i z) = true) : l.any p = true := List.any_eq_true.2 ⟨_, getD_mem l i z hi, h⟩
theorem any_none {α : Type} {p : α → Bool} {l : List α} {i : Nat} (hi : l.length ≤ i) (h : ∀ y ∈ l.take i, p y = false) : l.any p = false := by
  rw [List.take_of_length_le hi] at h
  rw [List.any_eq_false]
  intro x hx
  rw [h x hx]
  decide
theorem all_not {α : Type} {p : α → Bool} {l : List α} {i : Nat} {z : α} (hi : i < l.length) (h : p (l.getD i z) = false) : l.all p = false := List.all_eq_false.2 ⟨_, getD_mem l i z hi, by rw [h]; decide⟩
theorem all_end {α : Type} {p : α → Bool} {l : List α} {i : Nat} (hi : l.length ≤ i) (h : ∀ y ∈ l.take i, p y = true) : l.all p = true := by
  rw [List.take_of_length_le hi] at h
  exact List.all_eq_true.2 h
theorem step_all {α : Type} {P : α → Prop} {l : List α} {i : Nat} {z : α} (hi : i < l.length) (h : ∀ y ∈ l.take i, P y) (h' : P (l.getD i z)) : ∀ y ∈ l.take (i + 1), P y := by
  rw [take_getD l i z hi]
  intro y hy
  rcases List.mem_append.1 hy with h1 | h1
  · exact h y h1
  · rw [List.mem_singleton.1 h1]; exact h'

theorem bits_fill {n : Nat} {w : Int} {i : Nat} (hi : i < n) : ((bits n w).take i ++ List.replicate (n - i) false).set i (decide (w / 2 ^ (n - 1 - i) % 2 = 1)) = (bits n w).take (i + 1) ++ List.replicate (n - (i + 1)) false := by
  rw [bits_take hi, List.set_append_right _ _ (by simp [bits_length]; omega)]
  have e1 : i - ((bits n w).take i).length = 0 := by simp [bits_length]; omega
  have e2 : n - i = (n - (i + 1)) + 1 := by omega
  rw [e1, e2, List.replicate_succ, List.set_cons_zero, List.append_assoc]
  rfl

theorem with_ok {n : Int} {ls : List (List Int)} {a : List Bool} (h : (withA n ls a.length).1 = 0) : (a.length : Int) = n ∧ ∀ l ∈ ls, Good a.length l := by
  unfold withA at h
  split at h
  · simp at h
  · rename_i h1
    have hl : (a.length : Int) = n := by
      by_cases e : (a.length : Int) = n
      · exact e
      · exact absurd ⟨h, e⟩ h1
    refine ⟨hl, fun l hll x hx => ?_⟩
    rw [hl]
    exact wrong_ok ((check_ok h).2.2 l hll).2 x hx

theorem with_zero {n : Int} {ls : List (List Int)} {m : Nat} (h : (withA n ls m).1 = 0) : withA n ls m = (0, 0) := by
  unfold withA at h ⊢
  split at h
  · simp at h
  · rename_i h1
    rw [if_neg h1]
    exact check_zero h

def breaksOf (n : Int) (ls : List (List Int)) (a : List Bool) (v : Int) : Int × Int × Int :=
  if (withA n ls a.length).1 ≠ 0 then (0, withA n ls a.length) else if v < 1 ∨ n < v then (0, 3, -1) else (breaks ls a v, 0, 0)
end Sp
end Go.Um

/- Plain definitions and laws: trails. No program in sight. No condition. -/

namespace Go.Um
namespace Sp

def Fine (l : List Int) : Prop := ∀ x ∈ l, -9223372036854775808 < x ∧ x ≤ 9223372036854775807

def falseIn (l t : List Int) (but : Int) : Bool := l.all fun x => decide (x = but) || decide (-x ∈ t)
def free (t : List Int) (x : Int) : Bool := !decide (x ∈ t) && !decide (-x ∈ t)
def must (l t : List Int) : Int := match l.find? (free t) with
  | some x => if falseIn l t x = true then x else 0
  | none => 0

theorem find_at {α : Type} {p : α → Bool} {l : List α} {k : Nat} {z : α} (hk : k < l.length) (h : ∀ y ∈ l.take k, p y = false) (hp : p (l.getD k z) = true) : l.find? p = some (l.getD k z) := by
  have e : l = l.take k ++ (l.getD k z :: l.drop (k + 1)) := by
    have h1 : l.getD k z = l[k] := by simp [List.getD, List.getElem?_eq_getElem hk]
    rw [h1]
    exact (List.take_append_drop k l).symm.trans (by rw [List.drop_eq_getElem_cons hk])
  conv => lhs; rw [e]
  rw [List.find?_append, List.find?_eq_none.2 (fun y hy => by rw [h y hy]; decide)]
  simp only [Option.none_or]
  exact List.find?_cons_of_pos hp

theorem find_none {α : Type} {p : α → Bool} {l : List α} {i : Nat} (hi : l.length ≤ i) (h : ∀ y ∈ l.take i, p y = false) : l.find? p = none := by
  rw [List.take_of_length_le hi] at h
  rw [List.find?_eq_none]
  intro x hx
  rw [h x hx]
  decide

/-- The first place from m on with a property; -1: there is none. -/
def idxFrom {α : Type} (p : α → Bool) (l : List α) (m : Nat) : Int := match (l.drop m).findIdx? p with
  | some i => m + i
  | none => -1

theorem idxFrom_end {α : Type} (p : α → Bool) (l : List α) : idxFrom p l l.length = -1 := by simp [idxFrom]
theorem idxFrom_zero {α : Type} (p : α → Bool) (l : List α) : idxFrom p l 0 = idx p l := by
  simp only [idxFrom, idx, List.drop_zero]
  cases l.findIdx? p <;> simp
theorem idxFrom_step {α : Type} {p : α → Bool} {l : List α} {m : Nat} {z : α} (hm : m < l.length) : idxFrom p l m = if p (l.getD m z) = true then (m : Int) else idxFrom p l (m + 1) := by
  have h1 : l.getD m z = l[m] := by simp [List.getD, List.getElem?_eq_getElem hm]
  rw [h1]
  simp only [idxFrom]
  rw [List.drop_eq_getElem_cons hm, List.findIdx?_cons]
  by_cases h : p l[m] = true
  · simp [h]
  · simp only [Bool.not_eq_true] at h
    simp only [h, Bool.false_eq_true, if_false]
    cases (l.drop (m + 1)).findIdx? p <;> simp <;> omega

theorem idxFrom_range {α : Type} (p : α → Bool) (l : List α) (m : Nat) : idxFrom p l m = -1 ∨ (0 ≤ idxFrom p l m ∧ idxFrom p l m < l.length) := by
  unfold idxFrom
  cases h : (l.drop m).findIdx? p with
  | none => left; rfl
  | some i =>
    right
    rw [List.findIdx?_eq_some_iff_getElem] at h
    obtain ⟨h1, _⟩ := h
    simp at h1
    simp
    omega

theorem idxFrom_yes {α : Type} {p : α → Bool} {l : List α} {m : Nat} {z : α} (h1 : 1 ≤ m) (hm : m ≤ l.length) (h : p (l.getD ((m : Int) - 1).toNat z) = true) : idxFrom p l (m - 1) = (m : Int) - 1 := by
  have e : ((m : Int) - 1).toNat = m - 1 := by omega
  rw [e] at h
  rw [idxFrom_step (z := z) (by omega), if_pos h]
  omega
theorem idxFrom_no {α : Type} {p : α → Bool} {l : List α} {m : Nat} {z : α} (h1 : 1 ≤ m) (hm : m ≤ l.length) (h : p (l.getD ((m : Int) - 1).toNat z) = false) : idxFrom p l (m - 1) = idxFrom p l m := by
  have e : ((m : Int) - 1).toNat = m - 1 := by omega
  rw [e] at h
  rw [idxFrom_step (z := z) (by omega), if_neg (by rw [h]; decide), Nat.sub_add_cancel h1]

def conf (ls : List (List Int)) (t : List Int) : Int := idx (fun l => falseIn l t 0) ls
def unit (ls : List (List Int)) (t : List Int) : Int := idx (fun l => !decide (must l t = 0)) ls

/-- How many literals of clauses are not on a trail. -/
def room (ls : List (List Int)) (t : List Int) : Nat := (ls.flatten.filter fun x => !decide (x ∈ t)).length

theorem must_spec {l t : List Int} (h : must l t ≠ 0) : must l t ∈ l ∧ must l t ∉ t ∧ -must l t ∉ t ∧ falseIn l t (must l t) = true := by
  unfold must at h ⊢
  cases hf : l.find? (free t) with
  | none => rw [hf] at h; exact absurd rfl h
  | some x =>
    rw [hf] at h
    simp only at h ⊢
    by_cases hx : falseIn l t x = true
    · simp only [hx, if_true]
      have h1 := List.find?_some hf
      simp only [free, Bool.and_eq_true, Bool.not_eq_true', decide_eq_false_iff_not] at h1
      exact ⟨List.mem_of_find?_eq_some hf, h1.1, h1.2, trivial⟩
    · simp [hx] at h

theorem room_less {ls : List (List Int)} {t : List Int} {x : Int} (h1 : x ∈ ls.flatten) (h2 : x ∉ t) : room ls (t ++ [x]) < room ls t := by
  unfold room
  generalize ls.flatten = m at h1
  induction m with
  | nil => cases h1
  | cons y m ih =>
    have mono : ∀ k : List Int, (k.filter fun z => !decide (z ∈ t ++ [x])).length ≤ (k.filter fun z => !decide (z ∈ t)).length := by
      intro k
      induction k with
      | nil => simp
      | cons z k ih =>
        by_cases hz : z ∈ t
        · simp [hz]; simpa using ih
        · by_cases hzx : z = x
          · subst hzx; simp [h2]; have := ih; simp at this; omega
          · simp [hz, hzx]; simpa using ih
    rcases List.mem_cons.1 h1 with rfl | h
    · have := mono m
      simp [h2] at this ⊢
      omega
    · have := ih h
      by_cases hz : y ∈ t
      · simp [hz] at this ⊢; exact this
      · by_cases hzx : y = x
        · subst hzx; simp [h2] at this ⊢; omega
        · simp [hz, hzx] at this ⊢; exact this

theorem idx_mem {α : Type} {p : α → Bool} {l : List α} (z : α) (h : ¬ idx p l < 0) : (idx p l).toNat < l.length ∧ p (l.getD (idx p l).toNat z) = true := by
  unfold idx at h ⊢
  cases hf : l.findIdx? p with
  | none => rw [hf] at h; simp at h
  | some i =>
    rw [List.findIdx?_eq_some_iff_getElem] at hf
    obtain ⟨h1, h2, _⟩ := hf
    simp only [Int.toNat_natCast]
    exact ⟨h1, by simpa [List.getD, List.getElem?_eq_getElem h1] using h2⟩

theorem unit_mem {ls : List (List Int)} {t : List Int} (h : ¬ unit ls t < 0) : must (ls.getD (unit ls t).toNat []) t ≠ 0 ∧ ls.getD (unit ls t).toNat [] ∈ ls := by
  obtain ⟨h1, h2⟩ := idx_mem [] h
  simp only [Bool.not_eq_true', decide_eq_false_iff_not] at h2
  exact ⟨h2, getD_mem ls _ [] h1⟩

/-- P1: a trail goes on. -/
def on (ls : List (List Int)) (t w : List Int) : List Int × List Int × Int :=
  if 0 ≤ conf ls t then (t, w, conf ls t)
  else if h : unit ls t < 0 then (t, w, -1)
  else on ls (t ++ [must (ls.getD (unit ls t).toNat []) t]) (w ++ [unit ls t])
termination_by room ls t
decreasing_by
  obtain ⟨h1, h2⟩ := unit_mem h
  obtain ⟨h3, h4, _⟩ := must_spec h1
  exact room_less (List.mem_flatten.2 ⟨_, h2, h3⟩) h4

theorem on_step {ls : List (List Int)} {t : List Int} (hu : ¬ unit ls t < 0) : room ls (t ++ [must (ls.getD (unit ls t).toNat []) t]) < room ls t := by
  obtain ⟨h1, h2⟩ := unit_mem hu
  obtain ⟨h3, h4, _⟩ := must_spec h1
  exact room_less (List.mem_flatten.2 ⟨_, h2, h3⟩) h4
end Sp
end Go.Um

/- Plain definitions and laws: numbers of literals. No program in sight. No condition. -/

namespace Go.Um
namespace Sp

theorem pow_ok {m : Nat} (h : m ≤ 60) : (-9223372036854775808 : Int) ≤ 1 * 2 ^ ((m : Int)).toNat ∧ (1 : Int) * 2 ^ ((m : Int)).toNat ≤ 9223372036854775807 := by
  have h1 : (2 : Nat) ^ m ≤ 2 ^ 60 := Nat.pow_le_pow_right (by decide) h
  have h2 : (1 : Int) * 2 ^ ((m : Int)).toNat = ((2 ^ m : Nat) : Int) := by simp
  rw [h2]
  have h3 : (2 : Nat) ^ 60 = 1152921504606846976 := by decide
  generalize 2 ^ m = q at h1
  omega

theorem pow_nat (m : Nat) : (1 : Int) * 2 ^ ((m : Int)).toNat = ((2 ^ m : Nat) : Int) := by simp

def cardWrong (n : Int) (l : List Int) : Int × Int := if n < 0 ∨ 16 < n then (3, 0) else if 8 < l.length then (2, 0) else listed n l
def counted (n : Int) (l : List Int) (k : Int) : Int × Int := if (cardWrong n l).1 ≠ 0 then cardWrong n l else if k < 0 ∨ 8 < k then (3, -1) else (0, 0)

def bit (s : Nat) (i : Nat) : Bool := decide ((s : Int) / 2 ^ i % 2 = 1)
def subTo (l : List Int) (s i : Nat) : List Int := ((List.range i).filter (bit s)).map fun j => l.getD j 0
def sub (l : List Int) (s : Nat) : List Int := subTo l s l.length
def someTo (l : List Int) (k : Int) (s : Nat) : List (List Int) := ((List.range s).map (sub l)).filter fun c => decide ((c.length : Int) = k)
def some (l : List Int) (k : Int) : List (List Int) := someTo l k (2 ^ l.length)

theorem subTo_yes {l : List Int} {s i : Nat} (h : (s : Int) / 2 ^ i % 2 = 1) : subTo l s (i + 1) = subTo l s i ++ [l.getD i 0] := by
  simp [subTo, List.range_succ, bit, h]
theorem subTo_no {l : List Int} {s i : Nat} (h : ¬ (s : Int) / 2 ^ i % 2 = 1) : subTo l s (i + 1) = subTo l s i := by
  simp [subTo, List.range_succ, bit, h]
theorem subTo_len (l : List Int) (s i : Nat) : (subTo l s i).length ≤ i := by
  simp only [subTo, List.length_map]
  exact Nat.le_trans (List.length_filter_le _ _) (by simp)
theorem someTo_yes {l : List Int} {k : Int} {s : Nat} (h : ((sub l s).length : Int) = k) : someTo l k (s + 1) = someTo l k s ++ [sub l s] := by
  simp [someTo, List.range_succ, h]
theorem someTo_no {l : List Int} {k : Int} {s : Nat} (h : ¬ ((sub l s).length : Int) = k) : someTo l k (s + 1) = someTo l k s := by
  simp [someTo, List.range_succ, h]
theorem someTo_len (l : List Int) (k : Int) (s : Nat) : (someTo l k s).length ≤ s := by
  simp only [someTo]
  exact Nat.le_trans (List.length_filter_le _ _) (by simp)

def negs (l : List Int) : List Int := l.map fun x => -x
theorem negs_take (l : List Int) (i : Nat) (h : i < l.length) : negs (l.take (i + 1)) = negs (l.take i) ++ [-(l.getD i 0)] := by
  rw [take_getD l i 0 h, negs, List.map_append]; rfl

def most (n : Int) (l : List Int) (k : Int) : Int × List (List Int) × Int × Int :=
  if (counted n l k).1 ≠ 0 then (0, [], counted n l k) else (n, some (negs l) (k + 1), 0, 0)
def least (n : Int) (l : List Int) (k : Int) : Int × List (List Int) × Int × Int :=
  if (counted n l k).1 ≠ 0 then (0, [], counted n l k) else if k = 0 then (n, [], 0, 0) else if (l.length : Int) < k then (n, [[]], 0, 0) else (n, some l (l.length - k + 1), 0, 0)

def holding (a : List Bool) (l : List Int) : Nat := (l.filter (lit a)).length

def litAt (a : List Bool) (i : Nat) : Int := if a.getD i false = true then (i : Int) + 1 else -(i : Int) - 1
def literals (a : List Bool) : List Int := (List.range a.length).map (litAt a)
def literalsTo (a : List Bool) (i : Nat) : List Int := (List.range i).map (litAt a)
theorem literalsTo_succ (a : List Bool) (i : Nat) : literalsTo a (i + 1) = literalsTo a i ++ [litAt a i] := by simp [literalsTo, List.range_succ]
theorem literalsTo_len (a : List Bool) (i : Nat) : (literalsTo a i).length = i := by simp [literalsTo]
theorem sat_one {a : List Bool} {l : List Int} {i : Nat} (h : i < l.length) : sat a ((l.drop i).take (i + 1 - i)) = lit a (l.getD i 0) := by
  have h1 : l.getD i 0 = l[i] := by simp [List.getD, List.getElem?_eq_getElem h]
  rw [h1, Nat.add_sub_cancel_left, List.drop_eq_getElem_cons h]
  show (lit a l[i] || false) = _
  rw [Bool.or_false]

theorem listed_ok {n : Int} {l : List Int} (h : (listed n l).1 = 0) : ∀ x ∈ l, x ≠ 0 ∧ -n ≤ x ∧ x ≤ n := by
  unfold listed at h
  split at h
  · rename_i h1; exact absurd h h1
  · rename_i h1; exact wrong_ok (by simpa using h1)

theorem card_ok {n : Int} {l : List Int} (h : (cardWrong n l).1 = 0) : 0 ≤ n ∧ n ≤ 16 ∧ l.length ≤ 8 ∧ ∀ x ∈ l, x ≠ 0 ∧ -n ≤ x ∧ x ≤ n := by
  unfold cardWrong at h
  split at h
  · simp at h
  · split at h
    · simp at h
    · exact ⟨by omega, by omega, by omega, listed_ok h⟩

theorem counted_ok {n : Int} {l : List Int} {k : Int} (h : (counted n l k).1 = 0) : (cardWrong n l).1 = 0 ∧ (0 ≤ k ∧ k ≤ 8) ∧ (0 ≤ n ∧ n ≤ 16) ∧ l.length ≤ 8 ∧ ∀ x ∈ l, x ≠ 0 ∧ -n ≤ x ∧ x ≤ n := by
  unfold counted at h
  split at h
  · rename_i h1; exact absurd h h1
  · rename_i h1
    have h1 : (cardWrong n l).1 = 0 := by simpa using h1
    split at h
    · simp at h
    · obtain ⟨a, b, c, d⟩ := card_ok h1
      exact ⟨h1, by omega, by omega, c, d⟩
end Sp
end Go.Um

/- Plain laws: clauses that count. No program in sight. No condition. -/

namespace Go.Um
namespace Sp

def av (x : Int) : Int := max x (-x)

theorem wrong_iff {n : Int} {l : List Int} : (wrong n l).1 = 0 ↔ (∀ x ∈ l, x ≠ 0 ∧ -n ≤ x ∧ x ≤ n) ∧ l.Pairwise fun x y => av x ≠ av y := by
  have key : ∀ i, (wrongFrom n l i).1 = 0 ↔ ∀ j, i ≤ j → j < l.length → (l.getD j 0 ≠ 0 ∧ -n ≤ l.getD j 0 ∧ l.getD j 0 ≤ n) ∧ dup l j = false := by
    intro i
    induction hm : l.length - i generalizing i with
    | zero =>
      rw [wrongFrom, if_neg (by omega)]
      exact ⟨fun _ j h1 h2 => by omega, fun _ => rfl⟩
    | succ m ih =>
      rw [wrongFrom, if_pos (by omega)]
      by_cases h1 : l.getD i 0 = 0 ∨ l.getD i 0 < -n ∨ n < l.getD i 0
      · rw [if_pos h1]
        refine ⟨fun h => by simp at h, fun h => ?_⟩
        have := (h i (Nat.le_refl _) (by omega)).1
        omega
      · rw [if_neg h1]
        by_cases h2 : dup l i = true
        · rw [if_pos h2]
          refine ⟨fun h => by simp at h, fun h => ?_⟩
          have := (h i (Nat.le_refl _) (by omega)).2
          rw [h2] at this; cases this
        · rw [if_neg h2, ih (i + 1) (by omega)]
          refine ⟨fun h j h3 h4 => ?_, fun h j h3 h4 => h j (by omega) h4⟩
          by_cases e : j = i
          · subst e
            exact ⟨by omega, by simpa using h2⟩
          · exact h j (by omega) h4
  rw [wrong, key 0]
  have gd : ∀ j (h : j < l.length), l.getD j 0 = l[j] := fun j h => by simp [List.getD, List.getElem?_eq_getElem h]
  constructor
  · intro h
    refine ⟨fun x hx => ?_, ?_⟩
    · obtain ⟨j, hj, rfl⟩ := List.getElem_of_mem hx
      rw [← gd j hj]
      exact (h j (Nat.zero_le _) hj).1
    · rw [List.pairwise_iff_getElem]
      intro i j hi hj hij
      have hd := (h j (Nat.zero_le _) hj).2
      unfold dup at hd
      rw [List.any_eq_false] at hd
      have := hd l[i] (by rw [List.mem_take_iff_getElem]; exact ⟨i, by omega, rfl⟩)
      rw [gd j hj] at this
      simpa [av] using this
  · rintro ⟨h1, h2⟩ j _ hj
    refine ⟨by rw [gd j hj]; exact h1 _ (List.getElem_mem hj), ?_⟩
    unfold dup
    rw [List.any_eq_false]
    intro y hy
    rw [List.mem_take_iff_getElem] at hy
    obtain ⟨i, hi, rfl⟩ := hy
    rw [List.pairwise_iff_getElem] at h2
    have := h2 i j (by omega) hj (by omega)
    rw [gd j hj]
    simpa [av] using this

theorem sub_sublist (l : List Int) (s : Nat) : (sub l s).Sublist l := by
  have key : ∀ i, i ≤ l.length → (subTo l s i).Sublist (l.take i) := by
    intro i
    induction i with
    | zero => intro _; simp [subTo]
    | succ i ih =>
      intro h
      rw [take_getD l i 0 (by omega)]
      by_cases hb : (s : Int) / 2 ^ i % 2 = 1
      · rw [subTo_yes hb]; exact (ih (by omega)).append (List.Sublist.refl _)
      · rw [subTo_no hb]; exact (ih (by omega)).trans (List.sublist_append_left _ _)
  have := key l.length (Nat.le_refl _)
  rwa [List.take_length] at this

theorem wrong_sub {n : Int} {l m : List Int} (h : (wrong n l).1 = 0) (hm : m.Sublist l) : (wrong n m).1 = 0 := by
  rw [wrong_iff] at h ⊢
  exact ⟨fun x hx => h.1 x (hm.subset hx), h.2.sublist hm⟩

theorem wrong_negs {n : Int} {l : List Int} (h : (wrong n l).1 = 0) : (wrong n (negs l)).1 = 0 := by
  rw [wrong_iff] at h ⊢
  refine ⟨fun x hx => ?_, ?_⟩
  · simp only [negs, List.mem_map] at hx
    obtain ⟨y, hy, rfl⟩ := hx
    have := h.1 y hy
    omega
  · rw [negs, List.pairwise_map]
    refine h.2.imp ?_
    intro a b hab e
    apply hab
    unfold av at e ⊢
    omega

theorem some_mem {l : List Int} {k : Int} {c : List Int} (h : c ∈ some l k) : c.Sublist l ∧ (c.length : Int) = k := by
  simp only [some, someTo, List.mem_filter, List.mem_map, decide_eq_true_eq] at h
  obtain ⟨⟨s, _, rfl⟩, h2⟩ := h
  exact ⟨sub_sublist l s, h2⟩

theorem check_of {n : Int} {ls : List (List Int)} (h1 : 0 ≤ n ∧ n ≤ 120) (h2 : ls.length ≤ 400) (h3 : ∀ l ∈ ls, l.length ≤ 24 ∧ (wrong n l).1 = 0) : check n ls = (0, 0) := by
  rw [check, if_neg (by omega), if_neg (by omega)]
  have key : ∀ i, checkFrom n ls i = (0, 0) := by
    intro i
    induction hm : ls.length - i generalizing i with
    | zero => rw [checkFrom, if_neg (by omega)]
    | succ m ih =>
      have := h3 _ (getD_mem ls i [] (by omega))
      rw [checkFrom, if_pos (by omega), if_neg (by omega), if_neg (by rw [this.2]; simp)]
      exact ih (i + 1) (by omega)
  exact key 0

theorem some_check {n : Int} {l : List Int} {k : Int} (h1 : 0 ≤ n ∧ n ≤ 16) (h2 : l.length ≤ 8) (h : (wrong n l).1 = 0) : check n (some l k) = (0, 0) := by
  refine check_of (by omega) ?_ (fun c hc => ?_)
  · have h3 := someTo_len l k (2 ^ l.length)
    have h4 : 2 ^ l.length ≤ 256 := Nat.pow_le_pow_right (n := 2) (by decide) h2
    unfold some
    omega
  · obtain ⟨h3, _⟩ := some_mem hc
    exact ⟨by have := h3.length_le; omega, wrong_sub h h3⟩

theorem lit_neg {a : List Bool} {x : Int} (hx : x ≠ 0) : lit a (-x) = !lit a x := by
  unfold lit
  by_cases h : 0 < x
  · rw [if_pos h, if_neg (by omega), Int.neg_neg]
  · rw [if_neg h, if_pos (by omega), Bool.not_not]

/-- Every choice of places is that of a number. -/
theorem bit_exists (q : Nat → Bool) : ∀ n : Nat, ∃ s, s < 2 ^ n ∧ ∀ i, i < n → bit s i = q i := by
  intro n
  induction n with
  | zero => exact ⟨0, by simp, fun i hi => by omega⟩
  | succ n ih =>
    obtain ⟨s, hs, h⟩ := ih
    have hbit : ∀ t i : Nat, bit t i = t.testBit i := by
      intro t i
      rw [bit, Nat.testBit_eq_decide_div_mod_eq]
      have e : ((t : Int) / 2 ^ i % 2) = ((t / 2 ^ i % 2 : Nat) : Int) := by simp
      rw [e]
      congr 1
      apply propext
      omega
    cases hq : q n with
    | false =>
      refine ⟨s, by rw [Nat.pow_succ]; omega, fun i hi => ?_⟩
      by_cases e : i = n
      · subst e; rw [hbit, Nat.testBit_lt_two_pow hs, hq]
      · exact h i (by omega)
    | true =>
      refine ⟨2 ^ n + s, by rw [Nat.pow_succ]; omega, fun i hi => ?_⟩
      by_cases e : i = n
      · subst e; rw [hbit, Nat.testBit_two_pow_add_eq, Nat.testBit_lt_two_pow hs, hq]; rfl
      · rw [hbit, Nat.testBit_two_pow_add_gt (by omega), ← hbit]; exact h i (by omega)

theorem sub_exists {l m : List Int} (h : m.Sublist l) : ∃ s, s < 2 ^ l.length ∧ sub l s = m := by
  have key : ∃ q : Nat → Bool, ((List.range l.length).filter q).map (fun j => l.getD j 0) = m := by
    induction h with
    | slnil => exact ⟨fun _ => false, rfl⟩
    | cons a h ih =>
      rename_i m l
      obtain ⟨q, hq⟩ := ih
      refine ⟨fun i => match i with | 0 => false | i + 1 => q i, ?_⟩
      rw [List.length_cons, List.range_succ_eq_map, List.filter_cons_of_neg (by simp), List.filter_map, List.map_map]
      exact hq
    | cons_cons a h ih =>
      rename_i m l
      obtain ⟨q, hq⟩ := ih
      refine ⟨fun i => match i with | 0 => true | i + 1 => q i, ?_⟩
      rw [List.length_cons, List.range_succ_eq_map, List.filter_cons_of_pos (by simp), List.filter_map, List.map_cons, List.map_map]
      congr 1
  obtain ⟨q, hq⟩ := key
  obtain ⟨s, hs, hb⟩ := bit_exists q l.length
  refine ⟨s, hs, ?_⟩
  rw [sub, subTo, ← hq]
  congr 1
  apply List.filter_congr
  intro i hi
  exact hb i (by simpa using hi)

theorem some_of {l m : List Int} (h : m.Sublist l) : m ∈ some l m.length := by
  obtain ⟨s, hs, e⟩ := sub_exists h
  simp only [some, someTo, List.mem_filter, List.mem_map, decide_eq_true_eq, List.mem_range]
  exact ⟨⟨s, hs, e⟩, trivial⟩

/-- All clauses of so many of the literals hold just if fewer do not. -/
theorem all_some {a : List Bool} {l : List Int} {k : Nat} : all a (some l k) = decide ((l.filter fun x => !lit a x).length < k) := by
  rw [Bool.eq_iff_iff, decide_eq_true_eq, all, List.all_eq_true]
  constructor
  · intro h
    apply Nat.lt_of_not_le
    intro hk
    have hs : ((l.filter fun x => !lit a x).take k).Sublist l := (List.take_sublist _ _).trans List.filter_sublist
    have hlen : ((l.filter fun x => !lit a x).take k).length = k := by rw [List.length_take]; omega
    have hm := some_of hs
    rw [hlen] at hm
    have := h _ hm
    rw [sat, List.any_eq_true] at this
    obtain ⟨x, hx, hl⟩ := this
    have := (List.mem_filter.1 (List.mem_of_mem_take hx)).2
    rw [hl] at this
    cases this
  · intro h c hc
    obtain ⟨h1, h2⟩ := some_mem hc
    cases hs : sat a c with
    | true => rfl
    | false =>
      exfalso
      rw [sat, List.any_eq_false] at hs
      have h3 : c.filter (fun x => !lit a x) = c := List.filter_eq_self.2 (fun x hx => by simpa using hs x hx)
      have h4 := (h1.filter (fun x => !lit a x)).length_le
      rw [h3] at h4
      omega

theorem all_most {a : List Bool} {l : List Int} {k : Int} (hk : 0 ≤ k) (h0 : ∀ x ∈ l, x ≠ 0) : all a (some (negs l) (k + 1)) = decide ((holding a l : Int) ≤ k) := by
  obtain ⟨j, rfl⟩ := Int.eq_ofNat_of_zero_le hk
  have e : ((j : Int) + 1) = ((j + 1 : Nat) : Int) := by omega
  rw [e, all_some]
  have e2 : ((negs l).filter fun x => !lit a x).length = holding a l := by
    rw [negs, List.filter_map, List.length_map, holding]
    congr 1
    apply List.filter_congr
    intro x hx
    simp only [Function.comp]
    rw [lit_neg (h0 x hx), Bool.not_not]
  rw [e2]
  congr 1
  apply propext
  omega

theorem fh (a : List Bool) (l : List Int) : (l.filter fun x => !lit a x).length + holding a l = l.length := by
  rw [holding]
  induction l with
  | nil => rfl
  | cons x l ih =>
    cases hx : lit a x <;> simp [hx] <;> omega

theorem any_congr' {α : Type} {p q : α → Bool} : ∀ {l : List α}, (∀ x ∈ l, p x = q x) → l.any p = l.any q
  | [], _ => rfl
  | x :: l, h => by rw [List.any_cons, List.any_cons, h x (List.mem_cons_self ..), any_congr' (fun y hy => h y (List.mem_cons_of_mem _ hy))]

theorem all_least {a : List Bool} {l : List Int} {k : Int} (hk : 0 < k) (hkl : k ≤ l.length) : all a (some l (l.length - k + 1)) = decide (k ≤ (holding a l : Int)) := by
  obtain ⟨j, rfl⟩ := Int.eq_ofNat_of_zero_le (Int.le_of_lt hk)
  have e : ((l.length : Int) - (j : Int) + 1) = ((l.length - j + 1 : Nat) : Int) := by omega
  rw [e, all_some]
  have e2 := fh a l
  congr 1
  apply propext
  omega

/-! ### Full trails -/

theorem literals_mem {a : List Bool} {x : Int} (h : x ≠ 0 ∧ -(a.length : Int) ≤ x ∧ x ≤ a.length) : x ∈ literals a ↔ lit a x = true := by
  simp only [literals, List.mem_map, List.mem_range]
  constructor
  · rintro ⟨i, hi, rfl⟩
    unfold litAt lit
    by_cases hg : a.getD i false = true
    · rw [if_pos hg, if_pos (by omega)]
      have : ((i : Int) + 1 - 1).toNat = i := by omega
      rw [this]; exact hg
    · rw [if_neg hg, if_neg (by omega)]
      have : (-(-(i : Int) - 1) - 1).toNat = i := by omega
      rw [this]; simpa using hg
  · intro hl
    unfold lit at hl
    by_cases hx : 0 < x
    · rw [if_pos hx] at hl
      refine ⟨(x - 1).toNat, by omega, ?_⟩
      rw [litAt, if_pos hl]; omega
    · rw [if_neg hx] at hl
      refine ⟨(-x - 1).toNat, by omega, ?_⟩
      rw [litAt, if_neg (by simpa using hl)]; omega

theorem literals_full {a : List Bool} {x : Int} (h : x ≠ 0 ∧ -(a.length : Int) ≤ x ∧ x ≤ a.length) : x ∈ literals a ∨ -x ∈ literals a := by
  rw [literals_mem h, literals_mem (x := -x) (by omega), lit_neg h.1]
  cases lit a x <;> simp

theorem on_full {ls : List (List Int)} {t w : List Int} (h : ∀ l ∈ ls, ∀ x ∈ l, x ∈ t ∨ -x ∈ t) : on ls t w = (t, w, conf ls t) := by
  have hm : ∀ l ∈ ls, must l t = 0 := by
    intro l hl
    have : l.find? (free t) = none := by
      rw [List.find?_eq_none]
      intro x hx
      have := h l hl x hx
      simp only [free, Bool.and_eq_true, Bool.not_eq_true', decide_eq_false_iff_not]
      rintro ⟨h1, h2⟩
      rcases this with h3 | h3
      · exact h1 h3
      · exact h2 h3
    rw [must, this]
  have hu : unit ls t = -1 := idx_none (fun l hl => by rw [hm l hl]; rfl)
  rw [on]
  by_cases hc : 0 ≤ conf ls t
  · rw [if_pos hc]
  · rw [if_neg hc, dif_pos (by rw [hu]; decide)]
    have := idxFrom_range (fun l => falseIn l t 0) ls 0
    rw [idxFrom_zero] at this
    unfold conf at hc ⊢
    rw [this.resolve_right (by omega)]

theorem conf_full {a : List Bool} {ls : List (List Int)} (h : ∀ l ∈ ls, Good a.length l) : decide (conf ls (literals a) < 0) = all a ls := by
  have h1 := idx_any (fun l => falseIn l (literals a) 0) ls
  have h2 : (ls.any fun l => falseIn l (literals a) 0) = !all a ls := by
    rw [all, List.all_eq_not_any_not, Bool.not_not]
    refine any_congr' (fun l hl => ?_)
    rw [Bool.eq_iff_iff]
    simp only [falseIn, List.all_eq_true, Bool.or_eq_true, decide_eq_true_eq, Bool.not_eq_true', sat, List.any_eq_false, Bool.not_eq_true]
    refine forall₂_congr fun x hx => ?_
    have hg := h l hl x hx
    rw [literals_mem (x := -x) (by omega), lit_neg hg.1, Bool.not_eq_true']
    exact ⟨fun h => h.resolve_left hg.1, .inr⟩
  rw [h2] at h1
  unfold conf
  have h3 : decide (idx (fun l => falseIn l (literals a) 0) ls < 0) = !decide (0 ≤ idx (fun l => falseIn l (literals a) 0) ls) := by
    rw [Bool.eq_iff_iff]
    simp only [decide_eq_true_eq, Bool.not_eq_true', decide_eq_false_iff_not]
    omega
  rw [h3, h1, Bool.not_not]

theorem flat_bound {b : Nat} : ∀ {ls : List (List Int)}, (∀ l ∈ ls, l.length ≤ b) → ls.flatten.length ≤ ls.length * b
  | [], _ => by simp
  | l :: ls, h => by
    have h1 := h l (List.mem_cons_self ..)
    have h2 := flat_bound (ls := ls) (fun m hm => h m (List.mem_cons_of_mem _ hm))
    simp only [List.flatten_cons, List.length_append, List.length_cons, Nat.add_mul, Nat.one_mul]
    omega

theorem check_use {m : Nat} {ls : List (List Int)} (h : (check (m : Int) ls).1 = 0) : (∀ l ∈ ls, Good m l) ∧ ls.flatten.length ≤ 100000000 := by
  obtain ⟨h1, h2, h3⟩ := check_ok h
  refine ⟨fun l hl x hx => wrong_ok (h3 l hl).2 x hx, ?_⟩
  have := flat_bound (b := 24) (fun l hl => (h3 l hl).1)
  omega

theorem listed_zero {n : Int} {l : List Int} (h : (listed n l).1 = 0) : listed n l = (0, 0) := by
  unfold listed at h ⊢
  split at h
  · rename_i h1; exact absurd h h1
  · rename_i h1; rw [if_neg h1]

theorem card_zero {n : Int} {l : List Int} (h : (cardWrong n l).1 = 0) : cardWrong n l = (0, 0) := by
  unfold cardWrong at h ⊢
  split at h
  · simp at h
  · rename_i h1
    rw [if_neg h1]
    split at h
    · simp at h
    · rename_i h2
      rw [if_neg h2]
      exact listed_zero h

theorem card_wrong {n : Int} {l : List Int} (h : (cardWrong n l).1 = 0) : (wrong n l).1 = 0 := by
  unfold cardWrong at h
  split at h
  · simp at h
  · split at h
    · simp at h
    · unfold listed at h
      split at h
      · rename_i h1; exact absurd h h1
      · rename_i h1; simpa using h1

theorem least_ok {n : Int} {l : List Int} {k : Int} (h : (cardWrong n l).1 = 0) (hk : 0 ≤ k ∧ k ≤ 8) : ∃ cl, least n l k = (n, cl, 0, 0) ∧ check n cl = (0, 0) ∧ ∀ a, all a cl = decide (k ≤ (holding a l : Int)) := by
  have hco := card_ok h
  have ecnt : counted n l k = (0, 0) := by rw [counted, if_neg (fun h' => h' h), if_neg (by omega)]
  have hle : ∀ a, holding a l ≤ l.length := fun a => List.length_filter_le _ _
  by_cases h0 : k = 0
  · subst h0
    refine ⟨[], by rw [least, ecnt, if_neg (by decide), if_pos rfl], check_of (by omega) (by simp) (by simp), fun a => ?_⟩
    rw [decide_eq_true (by omega)]
    rfl
  · by_cases h1 : (l.length : Int) < k
    · refine ⟨[[]], by rw [least, ecnt, if_neg (by decide), if_neg h0, if_pos h1], check_of (by omega) (by simp) (fun c hc => ?_), fun a => ?_⟩
      · simp only [List.mem_singleton] at hc
        subst hc
        exact ⟨by simp, by rw [wrong_iff]; simp⟩
      · have := hle a
        rw [decide_eq_false (by omega)]
        rfl
    · exact ⟨some l (l.length - k + 1), by rw [least, ecnt, if_neg (by decide), if_neg h0, if_neg h1], some_check (by omega) (by omega) (card_wrong h), fun a => all_least (by omega) (by omega)⟩

theorem pow_pos' (m : Nat) : (1 : Int) ≤ 2 ^ ((m : Int)).toNat := by
  have : (0 : Int) < 2 ^ ((m : Int)).toNat := Int.pow_pos (by decide)
  omega

theorem counted_one : counted 2 [1, 2] 1 = (0, 0) := by
  have h : wrong 2 [1, 2] = (0, 0) := by simp [wrong, wrongFrom, dup, Int.max_def]
  simp [counted, cardWrong, listed, h]
theorem most_one : most 2 [1, 2] 1 = (2, [[-1, -2]], 0, 0) := by
  rw [most, counted_one]
  decide
theorem least_one : least 2 [1, 2] 1 = (2, [[1, 2]], 0, 0) := by
  rw [least, counted_one]
  decide
end Sp
end Go.Um

/- Plain facts: parities. No condition. -/


namespace Go.Um
namespace Sp

def Inc (n : Int) (zs : List Int) : Prop := (∀ z ∈ zs, 1 ≤ z ∧ z ≤ n) ∧ zs.Pairwise (fun x y => x < y)

theorem pwf_iff {n : Int} {zs : List Int} : ∀ (m k : Nat), zs.length - k = m → (parityWrongFrom n zs k = 0 ↔ ∀ j, k ≤ j → j < zs.length → (1 ≤ zs.getD j 0 ∧ zs.getD j 0 ≤ n) ∧ (0 < j → zs.getD (j - 1) 0 < zs.getD j 0)) := by
  intro m
  induction m with
  | zero =>
    intro k hk
    rw [parityWrongFrom, dif_neg (by omega)]
    exact ⟨fun _ j h1 h2 => by omega, fun _ => rfl⟩
  | succ m ih =>
    intro k hk
    rw [parityWrongFrom, dif_pos (by omega)]
    split
    · rename_i h
      refine ⟨(fun h0 => by cases h0), fun h0 => ?_⟩
      have := (h0 k (Nat.le_refl _) (by omega)).1
      omega
    · rename_i h
      split
      · rename_i h2
        refine ⟨(fun h0 => by cases h0), fun h0 => ?_⟩
        have := (h0 k (Nat.le_refl _) (by omega)).2 h2.1
        omega
      · rename_i h2
        rw [ih (k + 1) (by omega)]
        constructor
        · intro h0 j h1 h3
          by_cases e : j = k
          · subst e
            exact ⟨by omega, fun hp => by omega⟩
          · exact h0 j (by omega) h3
        · intro h0 j h1 h3
          exact h0 j (by omega) h3

theorem parity_ok {n : Int} {zs : List Int} : parityWrong n zs = 0 ↔ Inc n zs := by
  rw [parityWrong, pwf_iff _ 0 rfl]
  constructor
  · intro h
    have hg : ∀ i (hi : i < zs.length), zs.getD i 0 = zs[i] := fun i hi => by simp [List.getD, hi]
    refine ⟨fun z hz => ?_, ?_⟩
    · obtain ⟨i, hi, rfl⟩ := List.getElem_of_mem hz
      have := (h i (Nat.zero_le _) hi).1
      rw [hg i hi] at this
      exact this
    · rw [List.pairwise_iff_getElem]
      intro i j hi hj hij
      have key : ∀ d, ∀ j (hj : j < zs.length), j = i + 1 + d → zs[i] < zs[j] := by
        intro d
        induction d with
        | zero =>
          intro j hj e
          have := (h j (Nat.zero_le _) hj).2 (by omega)
          rw [hg j hj, show j - 1 = i by omega, hg i hi] at this
          exact this
        | succ d ih =>
          intro j hj e
          have h1 := ih (j - 1) (by omega) (by omega)
          have := (h j (Nat.zero_le _) hj).2 (by omega)
          rw [hg j hj, hg (j - 1) (by omega)] at this
          omega
      exact key (j - i - 1) j hj (by omega)
  · intro h j _ hj
    have hg : ∀ i (hi : i < zs.length), zs.getD i 0 = zs[i] := fun i hi => by simp [List.getD, hi]
    rw [hg j hj]
    refine ⟨h.1 _ (List.getElem_mem hj), fun hp => ?_⟩
    rw [hg (j - 1) (by omega)]
    exact List.pairwise_iff_getElem.1 h.2 (j - 1) j (by omega) hj (by omega)

theorem pcf_iff {n : Int} {l : List (List Int × Bool)} : ∀ (m k : Nat), l.length - k = m → ((∀ p ∈ l.drop k, Inc n p.1) → parCheckFrom n l k = (0, 0)) ∧ ((parCheckFrom n l k).1 = 0 → ∀ p ∈ l.drop k, Inc n p.1) := by
  intro m
  induction m with
  | zero =>
    intro k hk
    rw [parCheckFrom, dif_neg (by omega), List.drop_of_length_le (by omega)]
    simp
  | succ m ih =>
    intro k hk
    have hlt : k < l.length := by omega
    obtain ⟨i1, i2⟩ := ih (k + 1) (by omega)
    have hg : l.getD k ([], false) = l[k] := by simp [List.getD, hlt]
    rw [parCheckFrom, dif_pos hlt, hg, List.drop_eq_getElem_cons hlt]
    by_cases h : parityWrong n l[k].1 = 0
    · rw [if_neg (fun h2 => h2 h)]
      refine ⟨fun h2 => i1 (fun p hp => h2 p (List.mem_cons_of_mem _ hp)), fun h2 p hp => ?_⟩
      rcases List.mem_cons.1 hp with rfl | hp
      · exact parity_ok.1 h
      · exact i2 h2 p hp
    · rw [if_pos h]
      exact ⟨fun h2 => absurd (parity_ok.2 (h2 _ (List.mem_cons_self ..))) h, fun h2 => absurd h2 h⟩

theorem par_ok {n : Int} {l : List (List Int × Bool)} (h : (parCheck n l).1 = 0) : (0 ≤ n ∧ n ≤ 120) ∧ l.length ≤ 400 ∧ (∀ p ∈ l, Inc n p.1) ∧ parCheck n l = (0, 0) := by
  unfold parCheck at h ⊢
  split at h
  · cases h
  · split at h
    · cases h
    · rename_i h1 h2
      rw [if_neg h1, if_neg h2]
      obtain ⟨i1, i2⟩ := pcf_iff (n := n) (l := l) _ 0 rfl
      have := i2 h
      exact ⟨by omega, by omega, by simpa using this, i1 this⟩

theorem par_of {n : Int} {l : List (List Int × Bool)} (h1 : 0 ≤ n ∧ n ≤ 120) (h2 : l.length ≤ 400) (h3 : ∀ p ∈ l, Inc n p.1) : parCheck n l = (0, 0) := by
  rw [parCheck, if_neg (by omega), if_neg (by omega)]
  exact (pcf_iff _ 0 rfl).1 (by simpa using h3)

theorem inc_ext : ∀ {l m : List Int}, l.Pairwise (fun x y => x < y) → m.Pairwise (fun x y => x < y) → (∀ x, x ∈ l ↔ x ∈ m) → l = m
  | [], [], _, _, _ => rfl
  | [], y :: m, _, _, h => absurd ((h y).2 (List.mem_cons_self ..)) (by simp)
  | x :: l, [], _, _, h => absurd ((h x).1 (List.mem_cons_self ..)) (by simp)
  | x :: l, y :: m, hl, hm, h => by
    rw [List.pairwise_cons] at hl hm
    have e : x = y := by
      have h1 := (h x).1 (List.mem_cons_self ..)
      have h2 := (h y).2 (List.mem_cons_self ..)
      rcases List.mem_cons.1 h1 with h1 | h1
      · exact h1
      · rcases List.mem_cons.1 h2 with h2 | h2
        · exact h2.symm
        · have := hm.1 x h1; have := hl.1 y h2; omega
    subst e
    congr 1
    refine inc_ext hl.2 hm.2 (fun z => ⟨fun hz => ?_, fun hz => ?_⟩)
    · rcases List.mem_cons.1 ((h z).1 (List.mem_cons_of_mem _ hz)) with e | h1
      · have := hl.1 z hz; omega
      · exact h1
    · rcases List.mem_cons.1 ((h z).2 (List.mem_cons_of_mem _ hz)) with e | h1
      · have := hm.1 z hz; omega
      · exact h1

def srt (l : List Int) : List Int := l.mergeSort fun x y => decide (x ≤ y)

theorem srt_mem {l : List Int} {x : Int} : x ∈ srt l ↔ x ∈ l := (List.mergeSort_perm l _).mem_iff
theorem srt_len (l : List Int) : (srt l).length = l.length := List.length_mergeSort _
theorem srt_le (l : List Int) : (srt l).Pairwise (fun x y => x ≤ y) := by
  have := List.pairwise_mergeSort (le := fun x y : Int => decide (x ≤ y)) (fun a b c h1 h2 => by simp at *; omega) (fun a b => by simp; omega) l
  exact this.imp (fun h => by simpa using h)
theorem srt_inc {l : List Int} (h : l.Nodup) : (srt l).Pairwise (fun x y => x < y) := by
  have h1 : (srt l).Nodup := (List.mergeSort_perm l _).nodup_iff.2 h
  exact (srt_le l).imp₂ (fun x y h2 h3 => by omega) h1

theorem inc_nodup {l : List Int} (h : l.Pairwise (fun x y => x < y)) : l.Nodup := h.imp (fun h => by omega)

def side (a b : List Int) (i : Nat) : List Int := (a.take i).filter fun x => !decide (x ∈ b)
def psum (a b : List Int × Bool) : List Int × Bool := (srt (side a.1 b.1 a.1.length ++ side b.1 a.1 b.1.length), a.2 != b.2)

theorem side_yes {a b : List Int} {i : Nat} (hi : i < a.length) (h : decide (a.getD i 0 ∈ b) = false) : side a b (i + 1) = side a b i ++ [a.getD i 0] := by
  unfold side
  rw [take_getD a i 0 hi, List.filter_append]
  simp only [List.filter_cons, List.filter_nil, h, Bool.not_false, if_true]
theorem side_no {a b : List Int} {i : Nat} (hi : i < a.length) (h : decide (a.getD i 0 ∈ b) = true) : side a b (i + 1) = side a b i := by
  unfold side
  rw [take_getD a i 0 hi, List.filter_append]
  simp only [List.filter_cons, List.filter_nil, h, Bool.not_true, Bool.false_eq_true, if_false, List.append_nil]
theorem side_len (a b : List Int) (i : Nat) : (side a b i).length ≤ i := by
  have h1 := List.length_filter_le (fun x => !decide (x ∈ b)) (a.take i)
  have h2 : (a.take i).length ≤ i := by simp; omega
  exact Nat.le_trans h1 h2
theorem side_mem {a b : List Int} {x : Int} : x ∈ side a b a.length ↔ x ∈ a ∧ x ∉ b := by
  unfold side
  rw [List.take_of_length_le (Nat.le_refl _)]
  simp

theorem psum_mem {a b : List Int × Bool} {x : Int} : x ∈ (psum a b).1 ↔ (x ∈ a.1 ∧ x ∉ b.1) ∨ (x ∈ b.1 ∧ x ∉ a.1) := by
  simp only [psum, srt_mem, List.mem_append, side_mem]

theorem psum_inc {n : Int} {a b : List Int × Bool} (ha : Inc n a.1) (hb : Inc n b.1) : Inc n (psum a b).1 := by
  refine ⟨fun x hx => ?_, srt_inc ?_⟩
  · rcases psum_mem.1 hx with h | h
    · exact ha.1 x h.1
    · exact hb.1 x h.1
  · rw [List.nodup_append]
    refine ⟨((inc_nodup ha.2).sublist (List.take_sublist _ _)).filter _, ((inc_nodup hb.2).sublist (List.take_sublist _ _)).filter _, ?_⟩
    intro x hx y hy e
    subst e
    exact (side_mem.1 hy).2 (side_mem.1 hx).1

/-- The numbers from 1 on. -/
def oneTo (k : Nat) (p : Int → Bool) : List Int := ((List.range k).map fun (i : Nat) => (i : Int) + 1).filter p
theorem oneTo_yes {k : Nat} {p : Int → Bool} (h : p ((k : Int) + 1) = true) : oneTo (k + 1) p = oneTo k p ++ [(k : Int) + 1] := by
  unfold oneTo
  rw [List.range_succ, List.map_append, List.filter_append]
  simp [h]
theorem oneTo_no {k : Nat} {p : Int → Bool} (h : p ((k : Int) + 1) = false) : oneTo (k + 1) p = oneTo k p := by
  unfold oneTo
  rw [List.range_succ, List.map_append, List.filter_append]
  simp [h]
theorem oneTo_len (k : Nat) (p : Int → Bool) : (oneTo k p).length ≤ k := by
  have := List.length_filter_le p ((List.range k).map fun (i : Nat) => (i : Int) + 1)
  unfold oneTo
  simpa using this
theorem oneTo_inc (k : Nat) (p : Int → Bool) : (oneTo k p).Pairwise (fun x y => x < y) := by
  unfold oneTo
  refine List.Pairwise.filter _ ?_
  rw [List.pairwise_map]
  exact List.pairwise_lt_range.imp (fun h => by omega)
theorem oneTo_mem {k : Nat} {p : Int → Bool} {x : Int} : x ∈ oneTo k p ↔ (1 ≤ x ∧ x ≤ k) ∧ p x = true := by
  unfold oneTo
  rw [List.mem_filter, List.mem_map]
  constructor
  · rintro ⟨⟨i, hi, rfl⟩, h⟩
    rw [List.mem_range] at hi
    exact ⟨by omega, h⟩
  · rintro ⟨h1, h2⟩
    exact ⟨⟨(x - 1).toNat, by rw [List.mem_range]; omega, by omega⟩, h2⟩

def xmem (a b : List Int) (v : Int) : Bool := decide (v ∈ a) != decide (v ∈ b)

theorem psum_ref {n : Int} {a b : List Int × Bool} (ha : Inc n a.1) (hb : Inc n b.1) : (psum a b).1 = oneTo n.toNat (xmem a.1 b.1) := by
  refine inc_ext (psum_inc ha hb).2 (oneTo_inc _ _) (fun x => ?_)
  rw [psum_mem, oneTo_mem, xmem]
  by_cases h1 : x ∈ a.1 <;> by_cases h2 : x ∈ b.1 <;> simp [h1, h2]
  · have := ha.1 x h1; omega
  · have := hb.1 x h2; omega

def sumOf (n : Int) (a b : List Int × Bool) : (List Int × Bool) × (Int × Int) := if (parCheck n [a, b]).1 ≠ 0 then (([], false), parCheck n [a, b]) else (psum a b, (0, 0))

theorem sum_bad {n : Int} {a b : List Int × Bool} (h : (sumOf n a b).2.1 ≠ 0) : (sumOf n a b).1.1 = [] := by
  unfold sumOf at h ⊢
  split at h
  · rename_i h2; rw [if_pos h2]
  · exact absurd rfl h
theorem sum_ok {n : Int} {a b : List Int × Bool} (h : (sumOf n a b).2.1 = 0) : (0 ≤ n ∧ n ≤ 120) ∧ Inc n a.1 ∧ Inc n b.1 ∧ sumOf n a b = (psum a b, (0, 0)) := by
  have h1 : (parCheck n [a, b]).1 = 0 := by
    unfold sumOf at h
    split at h
    · exact h
    · rename_i h2; simpa using h2
  have h2 := par_ok h1
  exact ⟨h2.1, h2.2.2.1 a (by simp), h2.2.2.1 b (by simp), by rw [sumOf, if_neg (fun h => h h1)]⟩
theorem sum_of {n : Int} {a b : List Int × Bool} (hn : 0 ≤ n ∧ n ≤ 120) (ha : Inc n a.1) (hb : Inc n b.1) : sumOf n a b = (psum a b, (0, 0)) := by
  rw [sumOf, par_of hn (by simp) (by intro p hp; simp at hp; rcases hp with rfl | rfl <;> assumption), if_neg (by simp)]

theorem sum_one : sumOf 2 ([1, 2], true) ([1], false) = (([2], true), (0, 0)) := by
  have i1 : Inc 2 [1, 2] := parity_ok.1 (by simp [parityWrong, parityWrongFrom])
  have i2 : Inc 2 [1] := parity_ok.1 (by simp [parityWrong, parityWrongFrom])
  have i3 : Inc 2 [2] := parity_ok.1 (by simp [parityWrong, parityWrongFrom])
  rw [sum_of (by omega) i1 i2]
  have : (psum ([1, 2], true) ([1], false)).1 = [2] := inc_ext (psum_inc i1 i2).2 i3.2 (fun x => by rw [psum_mem]; simp; omega)
  have e : psum ([1, 2], true) ([1], false) = ([2], true) := Prod.ext this rfl
  rw [e]

theorem psum_assoc {n : Int} {a b c : List Int × Bool} (ha : Inc n a.1) (hb : Inc n b.1) (hc : Inc n c.1) : psum (psum a b) c = psum a (psum b c) := by
  refine Prod.ext (inc_ext (psum_inc (psum_inc ha hb) hc).2 (psum_inc ha (psum_inc hb hc)).2 (fun x => ?_)) ?_
  · rw [psum_mem, psum_mem, psum_mem, psum_mem]
    by_cases h1 : x ∈ a.1 <;> by_cases h2 : x ∈ b.1 <;> by_cases h3 : x ∈ c.1 <;> simp [h1, h2, h3]
  · show ((a.2 != b.2) != c.2) = (a.2 != (b.2 != c.2))
    cases a.2 <;> cases b.2 <;> cases c.2 <;> rfl
theorem psum_comm {n : Int} {a b : List Int × Bool} (ha : Inc n a.1) (hb : Inc n b.1) : psum b a = psum a b := by
  refine Prod.ext (inc_ext (psum_inc hb ha).2 (psum_inc ha hb).2 (fun x => ?_)) ?_
  · rw [psum_mem, psum_mem, or_comm]
  · show (b.2 != a.2) = (a.2 != b.2)
    cases a.2 <;> cases b.2 <;> rfl
theorem psum_self (a : List Int × Bool) : psum a a = ([], false) := by
  refine Prod.ext (List.eq_nil_iff_forall_not_mem.2 (fun x hx => ?_)) ?_
  · rcases psum_mem.1 hx with h | h <;> exact h.2 h.1
  · show (a.2 != a.2) = false
    cases a.2 <;> rfl

theorem ints_eq {a b : List Int} (h1 : a.length = b.length) (h2 : ∀ j, j < a.length → a.getD j 0 = b.getD j 0) : a = b := by
  apply List.ext_getElem h1
  intro i hi hi'
  have := h2 i hi
  simpa [List.getD, hi, hi'] using this

theorem inc_len {n : Int} {zs : List Int} (hn : 0 ≤ n ∧ n ≤ 120) (h : Inc n zs) : zs.length ≤ 120 := by
  have h1 : ∀ (zs : List Int) (lo : Int), (∀ z ∈ zs, lo < z ∧ z ≤ n) → zs.Pairwise (fun x y => x < y) → lo ≤ n → (zs.length : Int) ≤ n - lo := by
    intro zs
    induction zs with
    | nil => intro lo _ _ h; simp; omega
    | cons z zs ih =>
      intro lo hz hp hlo
      rw [List.pairwise_cons] at hp
      have h1 := hz z (List.mem_cons_self ..)
      have := ih z (fun y hy => ⟨hp.1 y hy, (hz y (List.mem_cons_of_mem _ hy)).2⟩) hp.2 (by omega)
      simp only [List.length_cons]
      omega
  have := h1 zs 0 (fun z hz => by have := h.1 z hz; omega) h.2 hn.1
  omega

end Sp
end Go.Um

/- Plain facts: literals in order, the search by flips. No condition. -/


namespace Go.Um
namespace Sp

/-! ### Order -/

def cmpI (x y : Int) : Int := if x < y then -1 else if y < x then 1 else 0
def ord (a b : Int) : Int := if cmpI (av a) (av b) ≠ 0 then cmpI (av a) (av b) else cmpI b a
def ltO (a b : Int) : Bool := decide (ord a b < 0)
def litSort (l : List Int) : List Int := l.mergeSort fun x y => !ltO y x

theorem ltO_iff {a b : Int} : ltO a b = true ↔ av a < av b ∨ (av a = av b ∧ b < a) := by
  unfold ltO ord cmpI
  rw [decide_eq_true_eq]
  repeat' split
  all_goals omega

theorem cmpI_abs {x y : Int} : (cmpI x y < 0 ↔ x < y) ∧ (cmpI x y = 0 ↔ x = y) := by
  unfold cmpI
  repeat' split
  all_goals omega

theorem ltO_not {a b : Int} : (!ltO b a) = true ↔ av a < av b ∨ (av a = av b ∧ b ≤ a) := by
  rw [Bool.not_eq_true', Bool.eq_false_iff, ne_eq, ltO_iff]
  omega

theorem litSort_perm (l : List Int) : (litSort l).Perm l := List.mergeSort_perm l _
theorem litSort_mem {l : List Int} {x : Int} : x ∈ litSort l ↔ x ∈ l := (litSort_perm l).mem_iff
theorem litSort_len (l : List Int) : (litSort l).length = l.length := List.length_mergeSort _
theorem litSort_le (l : List Int) : (litSort l).Pairwise (fun a b => av a < av b ∨ (av a = av b ∧ b ≤ a)) := by
  refine (List.pairwise_mergeSort (le := fun x y => !ltO y x) ?_ ?_ l).imp (fun h => ltO_not.1 h)
  · intro a b c h1 h2
    rw [ltO_not] at h1 h2 ⊢
    omega
  · intro a b
    rw [Bool.or_eq_true, ltO_not, ltO_not]
    omega

theorem litSort_inc {l : List Int} (h : l.Pairwise fun x y => av x ≠ av y) : ((litSort l).map av).Pairwise (fun x y => x < y) := by
  have h2 : (litSort l).Pairwise fun x y => av x ≠ av y := (litSort_perm l).symm.pairwise h (fun h => fun e => h e.symm)
  rw [List.pairwise_map]
  exact (h2.and (litSort_le l)).imp (fun ⟨h1, h2⟩ => by omega)

/-- The sorted list of a list is the one with these members in order. -/
theorem litSort_uniq {l m : List Int} (hp : m.Perm l) (hs : m.Pairwise (fun a b => av a < av b ∨ (av a = av b ∧ b ≤ a))) : m = litSort l := by
  refine List.Perm.eq_of_pairwise (le := fun a b => av a < av b ∨ (av a = av b ∧ b ≤ a)) ?_ hs (litSort_le l) (hp.trans (litSort_perm l).symm)
  intro a b _ _ h1 h2
  omega

theorem litSort_one (x : Int) : litSort [x] = [x] := List.mergeSort_singleton x

def orD (l : List Int) : Int := (l.find? fun y => decide (y ≠ 0)).getD 0
theorem orD_none {l : List Int} (h : ∀ y ∈ l, y = 0) : orD l = 0 := by
  unfold orD
  rw [List.find?_eq_none.2 (fun y hy => by simp [h y hy])]
  rfl
theorem orD_at {l : List Int} {i : Nat} (hi : i < l.length) (h : ∀ y ∈ l.take i, y = 0) (hne : l.getD i 0 ≠ 0) : orD l = l.getD i 0 := by
  have e : l = l.take i ++ l.getD i 0 :: l.drop (i + 1) := by
    conv => lhs; rw [← List.take_append_drop (i + 1) l, take_getD l i 0 hi]
    simp
  unfold orD
  conv => lhs; rw [e]
  rw [List.find?_append, List.find?_eq_none.2 (fun y hy => by simp [h y hy]), Option.none_or, List.find?_cons_of_pos (by exact decide_eq_true hne)]
  rfl
theorem orD_two (x y : Int) : orD [x, y] = if x ≠ 0 then x else y := by
  by_cases h : x = 0 <;> by_cases h2 : y = 0 <;> simp [orD, h, h2]

/-! ### The variable to flip -/

def pstep (br : Int → Nat) (b v : Int) : Int := if b = 0 ∨ br v < br b then v else b
def open_ (c : List Int) (last v : Int) : Bool := !(decide (v = last) && decide (1 < c.length))
def choice (ls : List (List Int)) (a : List Bool) (c : List Int) (last : Int) : Int := (((litSort c).map av).filter (open_ c last)).foldl (pstep (breaks ls a)) 0
def upto (n : Nat) : List Int := (List.range n).map fun (i : Nat) => (i : Int) + 1
def inC (c : List Int) (v : Int) : Bool := decide (v ∈ c) || decide (-v ∈ c)

theorem upto_inc (n : Nat) : (upto n).Pairwise (fun x y => x < y) := by
  unfold upto
  rw [List.pairwise_map]
  exact List.pairwise_lt_range.imp (fun h => by omega)
theorem upto_mem {n : Nat} {v : Int} : v ∈ upto n ↔ 1 ≤ v ∧ v ≤ n := by
  unfold upto
  rw [List.mem_map]
  constructor
  · rintro ⟨i, hi, rfl⟩
    have := List.mem_range.1 hi
    omega
  · intro h
    exact ⟨(v - 1).toNat, List.mem_range.2 (by omega), by omega⟩
theorem upto_len (n : Nat) : (upto n).length = n := by simp [upto]
theorem upto_getD {n i : Nat} (h : i < n) : (upto n).getD i 0 = (i : Int) + 1 := by
  simp [upto, List.getD, h]

theorem vars_eq {n : Nat} {c : List Int} (hG : Good n c) (hd : c.Pairwise fun x y => av x ≠ av y) : (litSort c).map av = (upto n).filter (inC c) := by
  refine inc_ext (litSort_inc hd) (List.Pairwise.filter _ (upto_inc n)) (fun v => ?_)
  rw [List.mem_map, List.mem_filter, upto_mem, inC, Bool.or_eq_true, decide_eq_true_eq, decide_eq_true_eq]
  constructor
  · rintro ⟨x, hx, rfl⟩
    rw [litSort_mem] at hx
    have := hG x hx
    unfold av
    refine ⟨by omega, ?_⟩
    by_cases h : 0 < x
    · rw [Int.max_eq_left (by omega)]; exact .inl hx
    · rw [Int.max_eq_right (by omega), Int.neg_neg]; exact .inr hx
  · rintro ⟨h1, h2 | h2⟩
    · exact ⟨v, litSort_mem.2 h2, by unfold av; omega⟩
    · exact ⟨-v, litSort_mem.2 h2, by unfold av; omega⟩

theorem choice_ref {n : Nat} {ls : List (List Int)} {a : List Bool} {c : List Int} {last : Int} (hG : Good n c) (hd : c.Pairwise fun x y => av x ≠ av y) : choice ls a c last = ((upto n).filter (fun v => open_ c last v && inC c v)).foldl (pstep (breaks ls a)) 0 := by
  unfold choice
  rw [vars_eq hG hd, List.filter_filter]

theorem pick_yes {p : Int → Bool} {g : Int → Int → Int} {l : List Int} {i : Nat} (hi : i < l.length) (h : p (l.getD i 0) = true) : ((l.take (i + 1)).filter p).foldl g 0 = g (((l.take i).filter p).foldl g 0) (l.getD i 0) := by
  rw [take_getD l i 0 hi, List.filter_append, List.filter_cons_of_pos h, List.filter_nil, List.foldl_append, List.foldl_cons, List.foldl_nil]
theorem pick_no {p : Int → Bool} {g : Int → Int → Int} {l : List Int} {i : Nat} (hi : i < l.length) (h : p (l.getD i 0) = false) : ((l.take (i + 1)).filter p).foldl g 0 = ((l.take i).filter p).foldl g 0 := by
  rw [take_getD l i 0 hi, List.filter_append, List.filter_cons_of_neg (by rw [h]; decide), List.filter_nil, List.append_nil]

theorem fold_mem {g : Int → Nat} : ∀ (l : List Int) (b : Int), l.foldl (pstep g) b = b ∨ l.foldl (pstep g) b ∈ l
  | [], b => .inl rfl
  | v :: l, b => by
    rw [List.foldl_cons]
    rcases fold_mem (g := g) l (pstep g b v) with h | h
    · rw [h]
      unfold pstep
      split
      · exact .inr (List.mem_cons_self ..)
      · exact .inl rfl
    · exact .inr (List.mem_cons_of_mem _ h)
theorem fold_some {g : Int → Nat} : ∀ (l : List Int) (b : Int), (∀ v ∈ l, v ≠ 0) → (l ≠ [] ∨ b ≠ 0) → l.foldl (pstep g) b ≠ 0
  | [], b, _, h => h.resolve_left (fun h => h rfl)
  | v :: l, b, h0, _ => by
    rw [List.foldl_cons]
    refine fold_some l _ (fun x hx => h0 x (List.mem_cons_of_mem _ hx)) (.inr ?_)
    unfold pstep
    split
    · exact h0 v (List.mem_cons_self ..)
    · rename_i h
      exact fun e => h (.inl e)

theorem choice_ok {n : Nat} {ls : List (List Int)} {a : List Bool} {c : List Int} {last : Int} (hG : Good n c) (hd : c.Pairwise fun x y => av x ≠ av y) (hc : c.length ≠ 0) : 1 ≤ choice ls a c last ∧ choice ls a c last ≤ n := by
  have hr : ∀ v ∈ ((litSort c).map av).filter (open_ c last), 1 ≤ v ∧ v ≤ n := by
    intro v hv
    have hv := (List.mem_filter.1 hv).1
    rw [vars_eq hG hd] at hv
    exact upto_mem.1 (List.mem_filter.1 hv).1
  have hne : ((litSort c).map av).filter (open_ c last) ≠ [] := by
    intro he
    have hall : ∀ x ∈ c, av x = last ∧ 1 < c.length := by
      intro x hx
      have := List.filter_eq_nil_iff.1 he (av x) (List.mem_map.2 ⟨x, litSort_mem.2 hx, rfl⟩)
      simpa [open_] using this
    match c, hc, hd, hall with
    | [x], _, _, hall => have := (hall x (List.mem_cons_self ..)).2; simp at this
    | x :: y :: c, _, hd, hall =>
      have h1 := (hall x (by simp)).1
      have h2 := (hall y (by simp)).1
      rw [List.pairwise_cons] at hd
      exact hd.1 y (by simp) (h1.trans h2.symm)
  have h1 := fold_some (g := breaks ls a) _ 0 (fun v hv => by have := hr v hv; omega) (.inl hne)
  rcases fold_mem (g := breaks ls a) (((litSort c).map av).filter (open_ c last)) 0 with h2 | h2
  · exact absurd h2 h1
  · exact hr _ h2

/-! ### The search -/

def unsat (ls : List (List Int)) (a : List Bool) : Int := idx (fun l => !sat a l) ls
def wnext (ls : List (List Int)) (a : List Bool) (last : Int) : Option Int :=
  if unsat ls a < 0 ∨ (ls.getD (unsat ls a).toNat []).length = 0 then none else Option.some (choice ls a (ls.getD (unsat ls a).toNat []) last)
def walkR (ls : List (List Int)) : Nat → List Bool → Int → Nat → List Bool × Nat
  | 0, a, _, d => (a, d)
  | f + 1, a, last, d => match wnext ls a last with
    | none => (a, d)
    | .some b => walkR ls f (flip a b) b (d + 1)

theorem idx_bnd {α : Type} (p : α → Bool) (l : List α) : -1 ≤ idx p l ∧ idx p l < l.length ∧ (∀ z, 0 ≤ idx p l → p (l.getD (idx p l).toNat z) = true) ∧ (idx p l < 0 → ∀ y ∈ l, p y = false) := by
  unfold idx
  split
  · rename_i k hk
    obtain ⟨h1, h2, _⟩ := List.findIdx?_eq_some_iff_getElem.1 hk
    refine ⟨by omega, by omega, fun z _ => ?_, fun h => absurd h (by omega)⟩
    simpa [List.getD, h1] using h2
  · rename_i hk
    refine ⟨by omega, by omega, fun z h => absurd h (by omega), fun _ => by simpa using hk⟩

theorem walkR_stop {ls : List (List Int)} {f : Nat} {a : List Bool} {last : Int} {d : Nat} (h : unsat ls a < 0 ∨ (ls.getD (unsat ls a).toNat []).length = 0) : walkR ls f a last d = (a, d) := by
  cases f with
  | zero => rfl
  | succ f => rw [walkR, wnext, if_pos h]
theorem walkR_go {ls : List (List Int)} {f : Nat} {a : List Bool} {last : Int} {d : Nat} (hf : 0 < f) (h : ¬ (unsat ls a < 0 ∨ (ls.getD (unsat ls a).toNat []).length = 0)) :
    walkR ls f a last d = walkR ls (f - 1) (flip a (choice ls a (ls.getD (unsat ls a).toNat []) last)) (choice ls a (ls.getD (unsat ls a).toNat []) last) (d + 1) := by
  obtain ⟨f, rfl⟩ : ∃ k, f = k + 1 := ⟨f - 1, by omega⟩
  rw [walkR, wnext, if_neg h]
  rfl

def walkOf (n : Int) (ls : List (List Int)) (a : List Bool) (flips : Int) : List Bool × Int × Int × Int :=
  if (withA n ls a.length).1 ≠ 0 then ([], 0, withA n ls a.length) else if flips < 0 ∨ 2000 < flips then ([], 0, 3, -1) else
  ((walkR ls flips.toNat a 0 0).1, (walkR ls flips.toNat a 0 0).2, 0, 0)

/-! ### What is so of the search -/

def unlike (a b : List Bool) : Nat := ((List.range a.length).filter fun i => decide (a.getD i false ≠ b.getD i false)).length

theorem flip_getD {a : List Bool} {v : Int} {i : Nat} (hv : 1 ≤ v ∧ v ≤ a.length) : (flip a v).getD i false = if i = (v - 1).toNat then !a.getD i false else a.getD i false := by
  unfold flip
  by_cases h : i = (v - 1).toNat
  · subst h
    rw [if_pos rfl]
    simp only [List.getD_eq_getElem?_getD, List.getElem?_set, if_true]
    rw [if_pos (by omega)]
    rfl
  · rw [if_neg h]
    simp only [List.getD_eq_getElem?_getD]
    rw [List.getElem?_set_ne (fun e => h e.symm)]

theorem count_one {n j : Nat} (hj : j < n) {p q : Nat → Bool} (h : ∀ i, i ≠ j → p i = q i) (hne : p j = !q j) : ((List.range n).filter p).length + 1 = ((List.range n).filter q).length ∨ ((List.range n).filter p).length = ((List.range n).filter q).length + 1 := by
  have hs : List.range n = List.range j ++ j :: (List.range (n - j - 1)).map (fun i => j + 1 + i) := by
    have h1 : n = j + (1 + (n - j - 1)) := by omega
    conv => lhs; rw [h1, List.range_add]
    congr 1
    rw [List.range_add]
    simp [Function.comp_def, Nat.add_assoc]
  have e1 : (List.range j).filter p = (List.range j).filter q := List.filter_congr (fun i hi => h i (by have := List.mem_range.1 hi; omega))
  have e2 : ((List.range (n - j - 1)).map (fun i => j + 1 + i)).filter p = ((List.range (n - j - 1)).map (fun i => j + 1 + i)).filter q := List.filter_congr (fun i hi => h i (by
    obtain ⟨k, _, rfl⟩ := List.mem_map.1 hi
    omega))
  rw [hs]
  simp only [List.filter_append, List.filter_cons, e1, e2, List.length_append, hne]
  cases q j <;> simp <;> omega

theorem unlike_flip {a b : List Bool} {v : Int} (hl : b.length = a.length) (hv : 1 ≤ v ∧ v ≤ b.length) : unlike a (flip b v) + 1 = unlike a b ∨ unlike a (flip b v) = unlike a b + 1 := by
  unfold unlike
  refine count_one (j := (v - 1).toNat) (by omega) (fun i hi => ?_) ?_
  · rw [flip_getD hv, if_neg hi]
  · rw [flip_getD hv, if_pos rfl]
    cases a.getD (v - 1).toNat false <;> cases b.getD (v - 1).toNat false <;> rfl

theorem unlike_self (a : List Bool) : unlike a a = 0 := by simp [unlike]

theorem walk_law {n : Nat} {ls : List (List Int)} {a0 : List Bool} (hG : ∀ l ∈ ls, Good n l ∧ l.Pairwise fun x y => av x ≠ av y) (hn : a0.length = n) : ∀ (f : Nat) (a : List Bool) (last : Int) (d : Nat), a.length = n → unlike a0 a ≤ d → (d - unlike a0 a) % 2 = 0 →
    (walkR ls f a last d).1.length = n ∧ d ≤ (walkR ls f a last d).2 ∧ (walkR ls f a last d).2 ≤ d + f ∧ unlike a0 (walkR ls f a last d).1 ≤ (walkR ls f a last d).2 ∧ ((walkR ls f a last d).2 - unlike a0 (walkR ls f a last d).1) % 2 = 0 ∧
    ((walkR ls f a last d).2 = d + f ∨ unsat ls (walkR ls f a last d).1 < 0 ∨ (ls.getD (unsat ls (walkR ls f a last d).1).toNat []).length = 0)
  | 0, a, last, d, h1, h2, h3 => ⟨h1, Nat.le_refl _, Nat.le_refl _, h2, h3, .inl rfl⟩
  | f + 1, a, last, d, h1, h2, h3 => by
    by_cases h : unsat ls a < 0 ∨ (ls.getD (unsat ls a).toNat []).length = 0
    · rw [walkR_stop h]
      exact ⟨h1, Nat.le_refl _, Nat.le_add_right _ _, h2, h3, .inr h⟩
    · rw [walkR_go (Nat.succ_pos f) h, Nat.succ_sub_one]
      have hb := idx_bnd (fun l => !sat a l) ls
      have hm := hG _ (getD_mem ls (unsat ls a).toNat [] (by unfold unsat at h ⊢; omega))
      have hc := choice_ok (ls := ls) (a := a) (last := last) hm.1 hm.2 (fun e => h (.inr e))
      obtain ⟨v, hv⟩ : ∃ v, choice ls a (ls.getD (unsat ls a).toNat []) last = v := ⟨_, rfl⟩
      rw [hv] at hc ⊢
      have hu := unlike_flip (a := a0) (b := a) (v := v) (by omega) (by omega)
      obtain ⟨i1, i2, i3, i4, i5, i6⟩ := walk_law hG hn f (flip a v) v (d + 1) (by rw [flip_length]; exact h1) (by omega) (by omega)
      exact ⟨i1, by omega, by omega, i4, i5, i6.elim (fun h => .inl (by omega)) .inr⟩

theorem walk_against : (walkR [[1, 2], [-1], [-2]] 3 [true, true] 0 0).2 = 3 := by
  have h1 : wnext [[1, 2], [-1], [-2]] [true, true] 0 = Option.some 1 := by
    have hu : unsat [[1, 2], [-1], [-2]] [true, true] = 1 := by decide
    rw [wnext, hu, if_neg (by decide)]
    show Option.some (((((litSort [-1]).map av).filter (open_ [-1] 0))).foldl (pstep (breaks [[1, 2], [-1], [-2]] [true, true])) 0) = _
    rw [litSort_one]
    decide
  have h2 : wnext [[1, 2], [-1], [-2]] (flip [true, true] 1) 1 = Option.some 2 := by
    have hu : unsat [[1, 2], [-1], [-2]] (flip [true, true] 1) = 2 := by decide
    rw [wnext, hu, if_neg (by decide)]
    show Option.some (((((litSort [-2]).map av).filter (open_ [-2] 1))).foldl (pstep (breaks [[1, 2], [-1], [-2]] _)) 0) = _
    rw [litSort_one]
    decide
  have h3 : ∃ v, wnext [[1, 2], [-1], [-2]] (flip (flip [true, true] 1) 2) 2 = Option.some v := by
    have hu : unsat [[1, 2], [-1], [-2]] (flip (flip [true, true] 1) 2) = 0 := by decide
    rw [wnext, hu, if_neg (by decide)]
    exact ⟨_, rfl⟩
  obtain ⟨v, h3⟩ := h3
  rw [walkR, h1]
  show (walkR _ 2 (flip [true, true] 1) 1 1).2 = 3
  rw [walkR, h2]
  show (walkR _ 1 (flip (flip [true, true] 1) 2) 2 2).2 = 3
  rw [walkR, h3]
  rfl

theorem wrong_use {n : Int} {ls : List (List Int)} {m : Nat} (h : (withA n ls m).1 = 0) : ∀ l ∈ ls, Good m l ∧ l.Pairwise fun x y => av x ≠ av y := by
  unfold withA at h
  split at h
  · cases h
  · rename_i h1
    obtain ⟨h2, h3, h4⟩ := check_ok h
    intro l hl
    have h5 := wrong_iff.1 (h4 l hl).2
    have hm : (m : Int) = n := Classical.byContradiction fun hc => h1 ⟨h, hc⟩
    exact ⟨fun x hx => by have := h5.1 x hx; omega, h5.2⟩

/-! ### The two loops that choose -/

def chTo (ls : List (List Int)) (a : List Bool) (c : List Int) (last : Int) (i : Nat) : Int := ((((litSort c).map av).take i).filter (open_ c last)).foldl (pstep (breaks ls a)) 0
def rcTo (ls : List (List Int)) (a : List Bool) (n : Nat) (c : List Int) (last : Int) (i : Nat) : Int := (((upto n).take i).filter (fun v => open_ c last v && inC c v)).foldl (pstep (breaks ls a)) 0

theorem ch_at {c : List Int} {i : Nat} (hi : i < (litSort c).length) : ((litSort c).map av).getD i 0 = av ((litSort c).getD i 0) := by
  simp [List.getD, hi]
theorem ch_end (ls : List (List Int)) (a : List Bool) (c : List Int) (last : Int) : chTo ls a c last (litSort c).length = choice ls a c last := by
  rw [chTo, choice, List.take_of_length_le (by simp)]
theorem ch_skip {ls : List (List Int)} {a : List Bool} {c : List Int} {last : Int} {i : Nat} (hi : i < (litSort c).length) (h : av ((litSort c).getD i 0) = last ∧ 1 < c.length) : chTo ls a c last (i + 1) = chTo ls a c last i := by
  refine pick_no (by simpa using hi) ?_
  rw [ch_at hi, open_, decide_eq_true h.1, decide_eq_true h.2]
  rfl
theorem ch_step {ls : List (List Int)} {a : List Bool} {c : List Int} {last : Int} {i : Nat} (hi : i < (litSort c).length) (h : ¬ (av ((litSort c).getD i 0) = last ∧ 1 < c.length)) : chTo ls a c last (i + 1) = pstep (breaks ls a) (chTo ls a c last i) (av ((litSort c).getD i 0)) := by
  refine (pick_yes (by simpa using hi) ?_).trans (by rw [ch_at hi]; rfl)
  rw [ch_at hi, open_, Bool.not_eq_true', Bool.and_eq_false_iff, decide_eq_false_iff_not, decide_eq_false_iff_not]
  exact Classical.not_and_iff_not_or_not.1 h
theorem rc_end {ls : List (List Int)} {a : List Bool} {n : Nat} {c : List Int} {last : Int} (hG : Good n c) (hd : c.Pairwise fun x y => av x ≠ av y) : rcTo ls a n c last n = choice ls a c last := by
  rw [choice_ref hG hd, rcTo, List.take_of_length_le (by rw [upto_len]; exact Nat.le_refl _)]
theorem rc_skip {ls : List (List Int)} {a : List Bool} {n : Nat} {c : List Int} {last : Int} {i : Nat} (hi : i < n) (h : (((i : Int) + 1 ∉ c) ∧ (-((i : Int) + 1) ∉ c)) ∨ ((i : Int) + 1 = last ∧ 1 < c.length)) : rcTo ls a n c last (i + 1) = rcTo ls a n c last i := by
  refine pick_no (by rw [upto_len]; exact hi) ?_
  rw [upto_getD hi]
  rcases h with h | h
  · rw [inC, decide_eq_false h.1, decide_eq_false h.2]; simp
  · rw [open_, decide_eq_true h.1, decide_eq_true h.2]; rfl
theorem rc_step {ls : List (List Int)} {a : List Bool} {n : Nat} {c : List Int} {last : Int} {i : Nat} (hi : i < n) (h : ¬ ((((i : Int) + 1 ∉ c) ∧ (-((i : Int) + 1) ∉ c)) ∨ ((i : Int) + 1 = last ∧ 1 < c.length))) : rcTo ls a n c last (i + 1) = pstep (breaks ls a) (rcTo ls a n c last i) ((i : Int) + 1) := by
  refine (pick_yes (by rw [upto_len]; exact hi) ?_).trans (by rw [upto_getD hi]; rfl)
  rw [upto_getD hi]
  rw [not_or] at h
  rw [Bool.and_eq_true, open_, inC, Bool.not_eq_true', Bool.and_eq_false_iff, decide_eq_false_iff_not, decide_eq_false_iff_not, Bool.or_eq_true, decide_eq_true_eq, decide_eq_true_eq]
  refine ⟨Classical.not_and_iff_not_or_not.1 h.2, ?_⟩
  rcases Classical.not_and_iff_not_or_not.1 h.1 with h | h
  · exact .inl (Classical.not_not.1 h)
  · exact .inr (Classical.not_not.1 h)
theorem rc_bnd {ls : List (List Int)} {a : List Bool} {n : Nat} {c : List Int} {last : Int} (i : Nat) : rcTo ls a n c last i = 0 ∨ (1 ≤ rcTo ls a n c last i ∧ rcTo ls a n c last i ≤ n) := by
  rcases fold_mem (g := breaks ls a) (((upto n).take i).filter (fun v => open_ c last v && inC c v)) 0 with h | h
  · exact .inl h
  · exact .inr (upto_mem.1 (List.mem_of_mem_take (List.mem_filter.1 h).1))
theorem pstep_take {g : Int → Nat} {b v : Int} (h : b = 0 ∨ g v < g b) : pstep g b v = v := if_pos h
theorem pstep_keep {g : Int → Nat} {b v : Int} (h : ¬ (b = 0 ∨ g v < g b)) : pstep g b v = b := if_neg h
theorem unsat_at {ls : List (List Int)} {a : List Bool} {j : Nat} (hj : j < ls.length) (h : ∀ y ∈ ls.take j, sat a y = true) (h2 : sat a (ls.getD j []) = false) : unsat ls a = j := by
  unfold unsat
  exact idx_at (z := []) hj (fun y hy => by rw [h y hy]; rfl) (by rw [h2]; rfl)
theorem unsat_none {ls : List (List Int)} {a : List Bool} {j : Nat} (hj : ls.length ≤ j) (h : ∀ y ∈ ls.take j, sat a y = true) : unsat ls a = -1 := by
  unfold unsat
  rw [List.take_of_length_le hj] at h
  exact idx_none (fun y hy => by rw [h y hy]; rfl)
theorem stop_at {ls : List (List Int)} {b : List Bool} {j : Nat} (h1 : j < ls.length → unsat ls b = j) (h2 : ls.length ≤ j → unsat ls b = -1) (h : j = ls.length ∨ (ls.getD j []).length = 0) : unsat ls b < 0 ∨ (ls.getD (unsat ls b).toNat []).length = 0 := by
  by_cases hj : ls.length ≤ j
  · rw [h2 hj]; exact .inl (by decide)
  · rw [h1 (by omega), Int.toNat_natCast]
    exact .inr (h.resolve_left (by omega))
theorem go_at {ls : List (List Int)} {b : List Bool} {j : Nat} (h1 : j < ls.length → unsat ls b = j) (hj : j < ls.length ∧ (ls.getD j []).length ≠ 0) : ¬ (unsat ls b < 0 ∨ (ls.getD (unsat ls b).toNat []).length = 0) := by
  rw [h1 hj.1, Int.toNat_natCast]
  have := hj.2
  omega
theorem with_24 {n : Int} {ls : List (List Int)} {m : Nat} (h : (withA n ls m).1 = 0) : ∀ l ∈ ls, l.length ≤ 24 := by
  unfold withA at h
  split at h
  · cases h
  · exact fun l hl => ((check_ok h).2.2 l hl).1
theorem walkOf_against : Sp.walkOf 2 [[1, 2], [-1], [-2]] [true, true] 3 = ((walkR [[1, 2], [-1], [-2]] 3 [true, true] 0 0).1, 3, 0, 0) := by
  have h : (withA 2 [[1, 2], [-1], [-2]] 2).1 = 0 := by simp [withA, check, checkFrom, wrong, wrongFrom, dup, Int.max_def]
  rw [walkOf, if_neg (fun h2 => h2 h), if_neg (by decide)]
  show (_, (((walkR [[1, 2], [-1], [-2]] 3 [true, true] 0 0).2 : Nat) : Int), (0 : Int), (0 : Int)) = _
  rw [walk_against]
  rfl
theorem walkOf_bad {n : Int} {ls : List (List Int)} {a : List Bool} {flips : Int} (h : (walkOf n ls a flips).2.2.1 ≠ 0) : (walkOf n ls a flips).1 = [] ∧ (walkOf n ls a flips).2.1 = 0 := by
  unfold walkOf at h ⊢
  split
  · exact ⟨rfl, rfl⟩
  · split
    · exact ⟨rfl, rfl⟩
    · rename_i h1 h2
      rw [if_neg h1, if_neg h2] at h
      exact absurd rfl h

def unlTo (a b : List Bool) (i : Nat) : Nat := ((List.range i).filter fun i => decide (a.getD i false ≠ b.getD i false)).length
theorem unlTo_le (a b : List Bool) (i : Nat) : unlTo a b i ≤ i := Nat.le_trans (List.length_filter_le _ _) (by simp)
theorem unlTo_yes {a b : List Bool} {i : Nat} (h : a.getD i false ≠ b.getD i false) : unlTo a b (i + 1) = unlTo a b i + 1 := by
  unfold unlTo
  rw [List.range_succ, List.filter_append, List.filter_cons_of_pos (by simpa using h)]
  simp
theorem unlTo_no {a b : List Bool} {i : Nat} (h : a.getD i false = b.getD i false) : unlTo a b (i + 1) = unlTo a b i := by
  unfold unlTo
  rw [List.range_succ, List.filter_append, List.filter_cons_of_neg (by simpa using h)]
  simp

theorem walkOf_law {n : Int} {ls : List (List Int)} {a : List Bool} {flips : Int} (h : (walkOf n ls a flips).2.2.1 = 0) :
    ((walkOf n ls a flips).1.length : Int) = n ∧ (a.length : Int) = n ∧ 0 ≤ (walkOf n ls a flips).2.1 ∧ (walkOf n ls a flips).2.1 ≤ flips ∧ (unlike a (walkOf n ls a flips).1 : Int) ≤ (walkOf n ls a flips).2.1 ∧ ((walkOf n ls a flips).2.1 - unlike a (walkOf n ls a flips).1) % 2 = 0 ∧
    ((walkOf n ls a flips).2.1 = flips ∨ ∀ i, i < ls.length → (∀ y ∈ ls.take i, sat (walkOf n ls a flips).1 y = true) → sat (walkOf n ls a flips).1 (ls.getD i []) = false → (ls.getD i []).length = 0) ∧ (∀ l ∈ ls, Good (walkOf n ls a flips).1.length l) := by
  have h0 : (withA n ls a.length).1 = 0 := by
    refine Classical.byContradiction fun hc => ?_
    rw [walkOf, if_pos hc] at h
    exact hc h
  have h1 : ¬ (flips < 0 ∨ 2000 < flips) := by
    intro hc
    rw [walkOf, if_neg (fun h2 => h2 h0), if_pos hc] at h
    cases h
  have hw : walkOf n ls a flips = ((walkR ls flips.toNat a 0 0).1, ((walkR ls flips.toNat a 0 0).2 : Int), 0, 0) := by rw [walkOf, if_neg (fun h2 => h2 h0), if_neg h1]
  have hu := wrong_use h0
  have hl := with_ok h0
  obtain ⟨g1, g2, g3, g4, g5, g6⟩ := walk_law (n := a.length) hu rfl flips.toNat a 0 0 rfl (by rw [unlike_self]; exact Nat.le_refl _) (by rw [unlike_self])
  rw [hw]
  dsimp only
  refine ⟨by omega, hl.1, by omega, by omega, by omega, by omega, ?_, fun l hm => by rw [g1]; exact (hu l hm).1⟩
  rcases g6 with g6 | g6
  · exact .inl (by omega)
  · refine .inr fun i hi hp hs => ?_
    have e := unsat_at hi hp hs
    rw [e, Int.toNat_natCast] at g6
    exact g6.resolve_left (by omega)

theorem breaks_le (ls : List (List Int)) (a : List Bool) (v : Int) : breaks ls a v ≤ ls.length := List.length_filter_le _ _

end Sp
end Go.Um

/- Plain facts: lists of lists in order, without repeats. No condition. -/

namespace Go.Um
namespace Sp

/-! ### A strict order, and lists ordered by it -/

structure Lt {α : Type} (lt : α → α → Bool) : Prop where
  irr : ∀ x, lt x x = false
  tr : ∀ x y z, lt x y = true → lt y z = true → lt x z = true
  tot : ∀ x y, lt x y = false → lt y x = false → x = y

theorem Lt.asym {α : Type} {lt : α → α → Bool} (h : Lt lt) {x y : α} (h1 : lt x y = true) : lt y x = false := by
  rw [Bool.eq_false_iff]
  intro h2
  have := h.tr x y x h1 h2
  rw [h.irr] at this
  cases this

theorem Lt.uniq {α : Type} {lt : α → α → Bool} (h : Lt lt) : ∀ {l m : List α}, l.Pairwise (fun x y => lt x y = true) → m.Pairwise (fun x y => lt x y = true) → (∀ x, x ∈ l ↔ x ∈ m) → l = m
  | [], [], _, _, _ => rfl
  | [], y :: m, _, _, hm => absurd ((hm y).2 (List.mem_cons_self ..)) (by simp)
  | x :: l, [], _, _, hm => absurd ((hm x).1 (List.mem_cons_self ..)) (by simp)
  | x :: l, y :: m, hl, hk, hm => by
    rw [List.pairwise_cons] at hl hk
    have e : x = y := by
      have h1 := (hm x).1 (List.mem_cons_self ..)
      have h2 := (hm y).2 (List.mem_cons_self ..)
      rcases List.mem_cons.1 h1 with h1 | h1
      · exact h1
      · rcases List.mem_cons.1 h2 with h2 | h2
        · exact h2.symm
        · have a := hl.1 y h2
          have b := hk.1 x h1
          rw [h.asym a] at b
          cases b
    subst e
    congr 1
    refine h.uniq hl.2 hk.2 (fun z => ?_)
    constructor
    · intro hz
      rcases List.mem_cons.1 ((hm z).1 (List.mem_cons_of_mem _ hz)) with e | h1
      · subst e
        have := hl.1 z hz
        rw [h.irr] at this
        cases this
      · exact h1
    · intro hz
      rcases List.mem_cons.1 ((hm z).2 (List.mem_cons_of_mem _ hz)) with e | h1
      · subst e
        have := hk.1 z hz
        rw [h.irr] at this
        cases this
      · exact h1

/-- Lists, letter by letter. -/
def ltL {α : Type} (lt : α → α → Bool) : List α → List α → Bool
  | [], [] => false
  | [], _ :: _ => true
  | _ :: _, [] => false
  | x :: xs, y :: ys => lt x y || (!lt y x && ltL lt xs ys)

theorem Lt.list {α : Type} {lt : α → α → Bool} (h : Lt lt) : Lt (ltL lt) where
  irr := by
    intro x
    induction x with
    | nil => rfl
    | cons a as ih => simp [ltL, h.irr, ih]
  tr := by
    intro x
    induction x with
    | nil => intro y z h1 h2; cases y <;> cases z <;> simp_all [ltL]
    | cons a as ih =>
      intro y z h1 h2
      cases y with
      | nil => simp [ltL] at h1
      | cons b bs =>
        cases z with
        | nil => simp [ltL] at h2
        | cons c cs =>
          simp only [ltL, Bool.or_eq_true, Bool.and_eq_true, Bool.not_eq_true'] at h1 h2 ⊢
          rcases h1 with h1 | ⟨h1, h1'⟩
          · rcases h2 with h2 | ⟨h2, h2'⟩
            · exact .inl (h.tr _ _ _ h1 h2)
            · by_cases hbc : lt b c = true
              · exact .inl (h.tr _ _ _ h1 hbc)
              · have e := h.tot b c (Bool.eq_false_iff.2 hbc) h2
                exact .inl (e ▸ h1)
          · by_cases hab : lt a b = true
            · rcases h2 with h2 | ⟨h2, h2'⟩
              · exact .inl (h.tr _ _ _ hab h2)
              · by_cases hbc : lt b c = true
                · exact .inl (h.tr _ _ _ hab hbc)
                · have e := h.tot b c (Bool.eq_false_iff.2 hbc) h2
                  exact .inl (e ▸ hab)
            · have e := h.tot a b (Bool.eq_false_iff.2 hab) h1
              subst e
              rcases h2 with h2 | ⟨h2, h2'⟩
              · exact .inl h2
              · exact .inr ⟨h2, ih _ _ h1' h2'⟩
  tot := by
    intro x
    induction x with
    | nil => intro y h1 h2; cases y <;> simp_all [ltL]
    | cons a as ih =>
      intro y h1 h2
      cases y with
      | nil => simp [ltL] at h2
      | cons b bs =>
        simp only [ltL, Bool.or_eq_false_iff, Bool.and_eq_false_iff, Bool.not_eq_false'] at h1 h2
        have e := h.tot a b h1.1 h2.1
        subst e
        rw [h.irr] at h1 h2
        simp only [Bool.false_eq_true, false_or, true_and] at h1 h2
        rw [ih bs h1 h2]

theorem lt_int : Lt (fun x y : Int => decide (x < y)) where
  irr x := by simp
  tr x y z h1 h2 := by simp only [decide_eq_true_eq] at *; omega
  tot x y h1 h2 := by simp only [decide_eq_false_iff_not] at *; omega
theorem lt_lit : Lt ltO where
  irr x := by rw [Bool.eq_false_iff, ne_eq, ltO_iff]; omega
  tr x y z h1 h2 := by rw [ltO_iff] at *; omega
  tot x y h1 h2 := by rw [Bool.eq_false_iff, ne_eq, ltO_iff] at *; omega

/-- What the library's comparison of lists tells. -/
def cmpL (cf : Int → Int → Int) : List Int → List Int → Int
  | [], [] => 0
  | [], _ :: _ => -1
  | _ :: _, [] => 1
  | x :: xs, y :: ys => if cf x y ≠ 0 then cf x y else cmpL cf xs ys

theorem cmpL_lt {cf : Int → Int → Int} {lt : Int → Int → Bool} (h1 : ∀ x y, cf x y < 0 ↔ lt x y = true) (h2 : ∀ x y, cf x y = 0 ↔ (lt x y = false ∧ lt y x = false)) : ∀ (a b : List Int), cmpL cf a b < 0 ↔ ltL lt a b = true
  | [], [] => by simp [cmpL, ltL]
  | [], _ :: _ => by simp [cmpL, ltL]
  | _ :: _, [] => by simp [cmpL, ltL]
  | x :: xs, y :: ys => by
    have ih := cmpL_lt h1 h2 xs ys
    have a := h1 x y
    have b := h2 x y
    simp only [cmpL, ltL, Bool.or_eq_true, Bool.and_eq_true, Bool.not_eq_true']
    split
    · rename_i hne
      rw [a]
      refine ⟨.inl, fun h => ?_⟩
      rcases h with h | h
      · exact h
      · by_cases h4 : lt x y = true
        · exact h4
        · exact absurd (b.2 ⟨Bool.eq_false_iff.2 h4, h.1⟩) hne
    · rename_i he
      have he := Classical.not_not.1 he
      have hb := b.1 he
      rw [ih, hb.1, hb.2]
      simp

theorem cmpL_at {cf : Int → Int → Int} : ∀ (i : Nat) (a b : List Int), i ≤ a.length → i ≤ b.length → (∀ j, j < i → cf (a.getD j 0) (b.getD j 0) = 0) → cmpL cf a b = cmpL cf (a.drop i) (b.drop i)
  | 0, a, b, _, _, _ => by simp
  | i + 1, [], b, h, _, _ => by simp at h
  | i + 1, a, [], _, h, _ => by simp at h
  | i + 1, x :: xs, y :: ys, h1, h2, h => by
    have h0 := h 0 (by omega)
    simp only [List.getD_cons_zero] at h0
    rw [cmpL, if_neg (fun h3 => h3 h0)]
    exact cmpL_at i xs ys (by simpa using h1) (by simpa using h2) (fun j hj => by simpa using h (j + 1) (by omega))
theorem cmpL_next {cf : Int → Int → Int} {a b : List Int} {i : Nat} (h1 : i < a.length) (h2 : i < b.length) (h : ∀ j, j < i → cf (a.getD j 0) (b.getD j 0) = 0) (hne : cf (a.getD i 0) (b.getD i 0) ≠ 0) : cmpL cf a b = cf (a.getD i 0) (b.getD i 0) := by
  rw [cmpL_at i a b (by omega) (by omega) h, List.drop_eq_getElem_cons h1, List.drop_eq_getElem_cons h2]
  have e1 : a.getD i 0 = a[i] := by simp [List.getD, h1]
  have e2 : b.getD i 0 = b[i] := by simp [List.getD, h2]
  rw [e1, e2] at hne ⊢
  rw [cmpL, if_pos hne]
theorem cmpL_more {cf : Int → Int → Int} {a b : List Int} {i : Nat} (h1 : i < a.length) (h2 : b.length = i) (h : ∀ j, j < i → cf (a.getD j 0) (b.getD j 0) = 0) : cmpL cf a b = 1 := by
  rw [cmpL_at i a b (by omega) (by omega) h, List.drop_eq_getElem_cons h1, List.drop_of_length_le (show b.length ≤ i by omega)]
  rfl
theorem cmpL_end {cf : Int → Int → Int} {a b : List Int} (h2 : a.length ≤ b.length) (h : ∀ j, j < a.length → cf (a.getD j 0) (b.getD j 0) = 0) : cmpL cf a b = if a.length < b.length then -1 else 0 := by
  rw [cmpL_at a.length a b (Nat.le_refl _) h2 h, List.drop_of_length_le (Nat.le_refl _)]
  split
  · rename_i hl
    rw [List.drop_eq_getElem_cons hl]
    rfl
  · rw [List.drop_of_length_le (by omega)]
    rfl

theorem ord_lt0 (x y : Int) : ord x y < 0 ↔ ltO x y = true := by unfold ltO; rw [decide_eq_true_eq]
theorem ord_zero (x y : Int) : ord x y = 0 ↔ (ltO x y = false ∧ ltO y x = false) := by
  constructor
  · intro h
    refine ⟨by unfold ltO; rw [h]; rfl, ?_⟩
    rw [Bool.eq_false_iff, ne_eq, ltO_iff]
    unfold ord cmpI at h
    repeat' split at h
    all_goals omega
  · rintro ⟨h1, h2⟩
    have := lt_lit.tot x y h1 h2
    subst this
    simp [ord, cmpI]
theorem cmpI_lt0 (x y : Int) : cmpI x y < 0 ↔ (fun x y : Int => decide (x < y)) x y = true := by simp only [decide_eq_true_eq]; exact cmpI_abs.1
theorem cmpI_zero (x y : Int) : cmpI x y = 0 ↔ ((fun x y : Int => decide (x < y)) x y = false ∧ (fun x y : Int => decide (x < y)) y x = false) := by
  simp only [decide_eq_false_iff_not]
  rw [cmpI_abs.2]
  omega

/-! ### Repeats struck out -/

def fresh {α : Type} [DecidableEq α] (z : α) (xs : List α) (i : Nat) : Bool := decide (i = 0) || decide (xs.getD i z ≠ xs.getD (i - 1) z)
def cmpTo {α : Type} [DecidableEq α] (z : α) (xs : List α) (i : Nat) : List α := ((List.range i).filter (fresh z xs)).map fun j => xs.getD j z
def compact {α : Type} [DecidableEq α] (z : α) (xs : List α) : List α := cmpTo z xs xs.length

section
variable {α : Type} [DecidableEq α] {z : α} {xs : List α}
theorem cmpTo_yes {i : Nat} (h : fresh z xs i = true) : cmpTo z xs (i + 1) = cmpTo z xs i ++ [xs.getD i z] := by
  unfold cmpTo
  rw [List.range_succ, List.filter_append, List.filter_cons_of_pos h]
  simp
theorem cmpTo_no {i : Nat} (h : fresh z xs i = false) : cmpTo z xs (i + 1) = cmpTo z xs i := by
  unfold cmpTo
  rw [List.range_succ, List.filter_append, List.filter_cons_of_neg (by rw [h]; decide)]
  simp
theorem cmpTo_len (i : Nat) : (cmpTo z xs i).length ≤ i := by
  unfold cmpTo
  rw [List.length_map]
  exact Nat.le_trans (List.length_filter_le _ _) (by simp)
theorem fresh_no {i : Nat} (h0 : 0 < i) (h : xs.getD i z = xs.getD (i - 1) z) : fresh z xs i = false := by
  unfold fresh
  rw [decide_eq_false (by omega), decide_eq_false (fun h2 => h2 h)]
  rfl
theorem fresh_yes {i : Nat} (h : xs.getD i z ≠ xs.getD (i - 1) z) : fresh z xs i = true := by
  unfold fresh
  rw [decide_eq_true h, Bool.or_true]
theorem cmpTo_one (h : 0 < xs.length) : cmpTo z xs 1 = xs.take 1 := by
  have : fresh z xs 0 = true := by simp [fresh]
  rw [cmpTo_yes this, take_getD xs 0 z h]
  simp [cmpTo]
theorem cmpTo_same {i : Nat} (hi : i < xs.length) (h : cmpTo z xs i = xs.take i) (hf : fresh z xs i = true) : cmpTo z xs (i + 1) = xs.take (i + 1) := by
  rw [cmpTo_yes hf, h, take_getD xs i z hi]
theorem compact_same (h : cmpTo z xs xs.length = xs.take xs.length) : compact z xs = xs := by
  rw [compact, h, List.take_length]
theorem compact_small (h : xs.length < 2) : compact z xs = xs := by
  match xs, h with
  | [], _ => rfl
  | [x], _ => simp [compact, cmpTo, fresh, List.range_succ]
omit [DecidableEq α] in
/-- What the row holds while repeats are struck out. -/
theorem set_next {c : List α} {j : Nat} (hc : c.length < xs.length) : (c ++ xs.drop c.length).set c.length (xs.getD j z) = (c ++ [xs.getD j z]) ++ xs.drop (c.length + 1) := by
  have e : xs.drop c.length = xs[c.length] :: xs.drop (c.length + 1) := List.drop_eq_getElem_cons hc
  rw [List.set_append_right _ _ (Nat.le_refl _), Nat.sub_self, e, List.set_cons_zero, List.append_assoc]
  rfl
omit [DecidableEq α] in
theorem row_at {c : List α} {j : Nat} (hc : c.length ≤ j) : (c ++ xs.drop c.length).getD j z = xs.getD j z := by
  simp only [List.getD_eq_getElem?_getD]
  rw [List.getElem?_append_right hc, List.getElem?_drop]
  congr 2
  omega
omit [DecidableEq α] in
theorem row_len {c : List α} (hc : c.length ≤ xs.length) : (c ++ xs.drop c.length).length = xs.length := by simp; omega
end

theorem cleared {α : Type} {c d r : List α} : ((((c ++ d).take c.length) ++ r).drop 0).take (c.length - 0) = c := by simp

theorem compact_mem {α : Type} [DecidableEq α] {z : α} (xs : List α) : ∀ i, i ≤ xs.length → ∀ x, x ∈ cmpTo z xs i ↔ x ∈ xs.take i
  | 0, _, x => by simp [cmpTo]
  | i + 1, hi, x => by
    have ih := compact_mem (z := z) xs i (by omega) x
    rw [take_getD xs i z (by omega), List.mem_append, List.mem_singleton, ← ih]
    cases h : fresh z xs i with
    | true => rw [cmpTo_yes h, List.mem_append, List.mem_singleton]
    | false =>
      rw [cmpTo_no h]
      refine ⟨.inl, fun h2 => h2.elim id (fun e => ?_)⟩
      unfold fresh at h
      rw [Bool.or_eq_false_iff, decide_eq_false_iff_not, decide_eq_false_iff_not, Classical.not_not] at h
      rw [ih, e, h.2]
      have : i - 1 < (xs.take i).length := by simp; omega
      have h3 := getD_mem (xs.take i) (i - 1) z this
      rwa [getD_take xs i (i - 1) z (by omega)] at h3

theorem compact_sorted {α : Type} [DecidableEq α] {z : α} {lt : α → α → Bool} (hl : Lt lt) {xs : List α} (hs : xs.Pairwise fun x y => lt y x = false) : (compact z xs).Pairwise fun x y => lt x y = true := by
  have key : ∀ i, i ≤ xs.length → (cmpTo z xs i).Pairwise (fun x y => lt x y = true) := by
    intro i
    induction i with
    | zero => intro _; simp [cmpTo]
    | succ i ih =>
      intro hi
      have ih := ih (by omega)
      cases h : fresh z xs i with
      | false => rw [cmpTo_no h]; exact ih
      | true =>
        rw [cmpTo_yes h]
        refine List.pairwise_append.2 ⟨ih, by simp, fun x hx y hy => ?_⟩
        rw [List.mem_singleton.1 hy]
        have hx2 := (compact_mem xs i (by omega) x).1 hx
        by_cases h0 : i = 0
        · subst h0; simp at hx2
        · have hne : xs.getD i z ≠ xs.getD (i - 1) z := by
            unfold fresh at h
            rw [decide_eq_false h0, Bool.false_or, decide_eq_true_eq] at h
            exact h
          have hg : ∀ j (hj : j < xs.length), xs.getD j z = xs[j] := fun j hj => by simp [List.getD, hj]
          have hp := List.pairwise_iff_getElem.1 hs
          have h1 : lt (xs.getD (i - 1) z) (xs.getD i z) = true := by
            have h2 := hp (i - 1) i (by omega) (by omega) (by omega)
            rw [hg i (by omega), hg (i - 1) (by omega)] at hne ⊢
            by_cases h3 : lt xs[i - 1] xs[i] = true
            · exact h3
            · exact absurd (hl.tot _ _ h2 (Bool.eq_false_iff.2 h3)) hne
          obtain ⟨j, hj, rfl⟩ := List.getElem_of_mem hx2
          have hji : j < i := by simp at hj; omega
          rw [List.getElem_take]
          by_cases e : j = i - 1
          · subst e
            rw [← hg (i - 1) (by omega)]
            exact h1
          · have h4 := hp j (i - 1) (by omega) (by omega) (by omega)
            rw [← hg (i - 1) (by omega)] at h4
            by_cases h5 : lt xs[j] (xs.getD (i - 1) z) = true
            · exact hl.tr _ _ _ h5 h1
            · rw [hl.tot _ _ (Bool.eq_false_iff.2 h5) h4]
              exact h1
  exact key xs.length (Nat.le_refl _)

/-- Sorted, without repeats. -/
def nub {α : Type} [DecidableEq α] (z : α) (lt : α → α → Bool) (l : List α) : List α := compact z (l.mergeSort fun x y => !lt y x)

theorem nub_mem {α : Type} [DecidableEq α] {z : α} {lt : α → α → Bool} {l : List α} {x : α} : x ∈ nub z lt l ↔ x ∈ l := by
  unfold nub compact
  rw [compact_mem _ _ (Nat.le_refl _), List.take_length]
  exact (List.mergeSort_perm l _).mem_iff
theorem nub_sorted {α : Type} [DecidableEq α] {z : α} {lt : α → α → Bool} (hl : Lt lt) (l : List α) : (nub z lt l).Pairwise fun x y => lt x y = true := by
  refine compact_sorted hl ((List.pairwise_mergeSort (le := fun x y => !lt y x) (fun a b c h1 h2 => ?_) (fun a b => ?_) l).imp (fun h => by simpa using h))
  · rw [Bool.not_eq_true'] at h1 h2 ⊢
    rw [Bool.eq_false_iff]
    intro h3
    by_cases h4 : lt b c = true
    · have := hl.tr _ _ _ h4 h3
      rw [h1] at this
      cases this
    · have := hl.tot _ _ (Bool.eq_false_iff.2 h4) h2
      subst this
      rw [h1] at h3
      cases h3
  · rw [Bool.or_eq_true, Bool.not_eq_true', Bool.not_eq_true']
    by_cases h : lt b a = true
    · exact .inr (hl.asym h)
    · exact .inl (Bool.eq_false_iff.2 h)
theorem nub_uniq {α : Type} [DecidableEq α] {z : α} {lt : α → α → Bool} (hl : Lt lt) {l m : List α} (hs : m.Pairwise fun x y => lt x y = true) (hm : ∀ x, x ∈ m ↔ x ∈ l) : m = nub z lt l :=
  hl.uniq hs (nub_sorted hl l) (fun x => by rw [hm, nub_mem])
/-- A member is put at its place. -/
theorem put_sorted {α : Type} {lt : α → α → Bool} (hl : Lt lt) {m : List α} {x z : α} {k : Nat} (hs : m.Pairwise fun x y => lt x y = true) (hk : k ≤ m.length) (h1 : ∀ y ∈ m.take k, lt y x = true) (h2 : k < m.length → lt (m.getD k z) x = false) (h3 : k < m.length → m.getD k z ≠ x) :
    (m.take k ++ [x] ++ m.drop k).Pairwise fun x y => lt x y = true := by
  have h4 : ∀ y ∈ m.drop k, lt x y = true := by
    intro y hy
    obtain ⟨j, hj, rfl⟩ := List.getElem_of_mem hy
    have hjl : k + j < m.length := by simp at hj; omega
    have hkl : k < m.length := by omega
    have e : m.getD k z = m[k] := by simp [List.getD, hkl]
    have h5 : lt x (m.getD k z) = true := by
      by_cases h6 : lt x (m.getD k z) = true
      · exact h6
      · exact absurd (hl.tot _ _ (h2 hkl) (Bool.eq_false_iff.2 h6)) (h3 hkl)
    rw [List.getElem_drop]
    by_cases h6 : j = 0
    · subst h6
      rw [e] at h5
      exact h5
    · have := List.pairwise_iff_getElem.1 hs k (k + j) hkl hjl (by omega)
      rw [e] at h5
      exact hl.tr _ _ _ h5 this
  have h5 := List.pairwise_append.1 (show (m.take k ++ m.drop k).Pairwise _ by rw [List.take_append_drop]; exact hs)
  refine List.pairwise_append.2 ⟨List.pairwise_append.2 ⟨h5.1, by simp, fun a ha b hb => by rw [List.mem_singleton.1 hb]; exact h1 a ha⟩, h5.2.1, fun a ha b hb => ?_⟩
  rcases List.mem_append.1 ha with ha | ha
  · exact h5.2.2 a ha b hb
  · rw [List.mem_singleton.1 ha]; exact h4 b hb
theorem put_mem {α : Type} {m : List α} {x y : α} {k : Nat} : y ∈ m.take k ++ [x] ++ m.drop k ↔ y = x ∨ y ∈ m := by
  have : y ∈ m ↔ y ∈ m.take k ∨ y ∈ m.drop k := by rw [← List.mem_append, List.take_append_drop]
  rw [List.mem_append, List.mem_append, List.mem_singleton, this]
  constructor
  · rintro ((h | h) | h)
    · exact .inr (.inl h)
    · exact .inl h
    · exact .inr (.inr h)
  · rintro (h | h | h)
    · exact .inl (.inr h)
    · exact .inl (.inl h)
    · exact .inr h

/-- The sorted list, built by putting letters at their places. -/
theorem litSort_put {m : List Int} {x : Int} {k : Nat} (hk : k ≤ m.length) (h1 : ∀ y ∈ (litSort m).take k, ltO x y = false) (h2 : k < m.length → ltO x ((litSort m).getD k 0) = true) : (litSort m).take k ++ [x] ++ (litSort m).drop k = litSort (m ++ [x]) := by
  refine litSort_uniq ?_ ?_
  · refine List.Perm.trans ?_ ((litSort_perm m).append_right [x])
    rw [List.append_assoc]
    refine (List.perm_append_comm_assoc _ _ _).trans ?_
    rw [List.take_append_drop]
    exact List.perm_append_comm
  · have hs := litSort_le m
    have hlen := litSort_len m
    have h4 : ∀ y ∈ (litSort m).drop k, av x < av y ∨ (av x = av y ∧ y ≤ x) := by
      intro y hy
      obtain ⟨j, hj, rfl⟩ := List.getElem_of_mem hy
      have hjl : k + j < (litSort m).length := by simp at hj; omega
      have hkl : k < (litSort m).length := by omega
      have e : (litSort m).getD k 0 = (litSort m)[k] := by simp [List.getD, hkl]
      have h5 := h2 (by omega)
      rw [e, ltO_iff] at h5
      rw [List.getElem_drop]
      by_cases h6 : j = 0
      · subst h6; simp only [Nat.add_zero]; omega
      · have := List.pairwise_iff_getElem.1 hs k (k + j) hkl hjl (by omega)
        omega
    have h5 := List.pairwise_append.1 (show ((litSort m).take k ++ (litSort m).drop k).Pairwise _ by rw [List.take_append_drop]; exact hs)
    have h6 : ∀ y ∈ (litSort m).take k, av y < av x ∨ (av y = av x ∧ x ≤ y) := fun y hy => by
      have := h1 y hy
      rw [Bool.eq_false_iff, ne_eq, ltO_iff] at this
      omega
    refine List.pairwise_append.2 ⟨List.pairwise_append.2 ⟨h5.1, by simp, fun a ha b hb => by rw [List.mem_singleton.1 hb]; exact h6 a ha⟩, h5.2.1, fun a ha b hb => ?_⟩
    rcases List.mem_append.1 ha with ha | ha
    · exact h5.2.2 a ha b hb
    · rw [List.mem_singleton.1 ha]; exact h4 b hb

def nrm (ls : List (List Int)) : List (List Int) := nub [] (ltL ltO) (ls.map litSort)

theorem nrm_step {ls : List (List Int)} {i : Nat} (hi : i < ls.length) : ∀ x, x ∈ nrm (ls.take (i + 1)) ↔ x = litSort (ls.getD i []) ∨ x ∈ nrm (ls.take i) := by
  intro x
  unfold nrm
  rw [nub_mem, nub_mem, take_getD ls i [] hi, List.map_append, List.mem_append]
  simp only [List.map_cons, List.map_nil, List.mem_singleton]
  exact Or.comm
theorem nrm_sorted (ls : List (List Int)) : (nrm ls).Pairwise fun x y => ltL ltO x y = true := nub_sorted lt_lit.list _
theorem nrm_put {ls : List (List Int)} {i k : Nat} (hi : i < ls.length) (hk : k ≤ (nrm (ls.take i)).length) (h1 : ∀ y ∈ (nrm (ls.take i)).take k, ltL ltO y (litSort (ls.getD i [])) = true) (h2 : k < (nrm (ls.take i)).length → ltL ltO ((nrm (ls.take i)).getD k []) (litSort (ls.getD i [])) = false)
    (h3 : k < (nrm (ls.take i)).length → (nrm (ls.take i)).getD k [] ≠ litSort (ls.getD i [])) : nrm (ls.take (i + 1)) = (nrm (ls.take i)).take k ++ [litSort (ls.getD i [])] ++ (nrm (ls.take i)).drop k :=
  lt_lit.list.uniq (nrm_sorted _) (put_sorted lt_lit.list (nrm_sorted _) hk h1 h2 h3) (fun x => by rw [nrm_step hi, put_mem])
theorem nrm_skip {ls : List (List Int)} {i k : Nat} (hi : i < ls.length) (hk : k < (nrm (ls.take i)).length) (h : (nrm (ls.take i)).getD k [] = litSort (ls.getD i [])) : nrm (ls.take (i + 1)) = nrm (ls.take i) :=
  lt_lit.list.uniq (nrm_sorted _) (nrm_sorted _) (fun x => by
    rw [nrm_step hi]
    refine ⟨fun h2 => h2.elim (fun e => ?_) id, .inr⟩
    rw [e, ← h]
    exact getD_mem _ k [] hk)
theorem nrm_len (ls : List (List Int)) : (nrm ls).length ≤ ls.length := by
  unfold nrm nub compact
  refine Nat.le_trans (cmpTo_len _) ?_
  rw [List.length_mergeSort, List.length_map]
  exact Nat.le_refl _
theorem nrm_nil : nrm [] = [] := by simp [nrm, nub, compact, cmpTo]
theorem nrm_elem {ls : List (List Int)} {x : List Int} (h : x ∈ nrm ls) : ∃ l ∈ ls, x = litSort l := by
  unfold nrm at h
  rw [nub_mem, List.mem_map] at h
  obtain ⟨l, hl, rfl⟩ := h
  exact ⟨l, hl, rfl⟩
theorem lists_eq {α : Type} {z : α} {a b : List α} (hl : a.length = b.length) (h : ∀ j, j < a.length → a.getD j z = b.getD j z) : a = b := by
  apply List.ext_getElem hl
  intro i h1 h2
  have := h i h1
  simpa [List.getD, h1, h2] using this
theorem put_form {α : Type} {m : List α} {x : α} {k : Nat} : (([] ++ (m.drop 0).take (k - 0)) ++ [x]) ++ (m.drop k).take (m.length - k) = m.take k ++ [x] ++ m.drop k := by
  rw [List.take_of_length_le (l := m.drop k) (by simp)]
  simp
theorem before_cmp (a b : List Int) : ltL ltO a b = decide (cmpL ord a b < 0) := by
  rw [Bool.eq_iff_iff, decide_eq_true_eq]
  exact (cmpL_lt ord_lt0 ord_zero a b).symm
theorem ord_same {a b : List Int} {i : Nat} (h : ∀ j, j < i → a.getD j 0 = b.getD j 0) : ∀ j, j < i → ord (a.getD j 0) (b.getD j 0) = 0 := fun j hj => by
  rw [h j hj, ord_zero]
  exact ⟨lt_lit.irr _, lt_lit.irr _⟩
theorem ord_ne {x y : Int} (h : x ≠ y) : ord x y ≠ 0 := fun h2 => h (lt_lit.tot _ _ ((ord_zero x y).1 h2).1 ((ord_zero x y).1 h2).2)
end Sp
end Go.Um
