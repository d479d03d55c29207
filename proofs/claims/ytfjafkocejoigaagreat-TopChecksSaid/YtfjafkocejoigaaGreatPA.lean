/- Plain functions: what the Go functions compute. No condition. -/

namespace Go.Um.Sp

def parityWrongFrom (n : Int) (zs : List Int) (k : Nat) : Int :=
  if h : k < zs.length then
    if zs.getD k 0 < 1 ∨ n < zs.getD k 0 then 3
    else if 0 < k ∧ zs.getD k 0 ≤ zs.getD (k - 1) 0 then 5
    else parityWrongFrom n zs (k + 1)
  else 0
termination_by zs.length - k
def parityWrong (n : Int) (zs : List Int) : Int := parityWrongFrom n zs 0

def parCheckFrom (n : Int) (l : List (List Int × Bool)) (i : Nat) : Int × Int :=
  if h : i < l.length then
    if parityWrong n (l.getD i ([], false)).1 ≠ 0 then (parityWrong n (l.getD i ([], false)).1, i)
    else parCheckFrom n l (i + 1)
  else (0, 0)
termination_by l.length - i
def parCheck (n : Int) (l : List (List Int × Bool)) : Int × Int :=
  if n < 0 ∨ 120 < n then (3, 0) else if 400 < l.length then (2, 0) else parCheckFrom n l 0

end Go.Um.Sp

/- Plain definitions and laws: clauses. No program in sight. No condition. -/

namespace Go.Um
namespace Sp

theorem take_getD {α : Type} (l : List α) (i : Nat) (z : α) (h : i < l.length) : l.take (i + 1) = l.take i ++ [l.getD i z] := by
  rw [List.take_add_one, List.getElem?_eq_getElem h]
  simp [List.getD, List.getElem?_eq_getElem h]

theorem getD_mem {α : Type} (l : List α) (i : Nat) (z : α) (h : i < l.length) : l.getD i z ∈ l := by
  simp only [List.getD, List.getElem?_eq_getElem h, Option.getD_some]
  exact List.getElem_mem h

theorem getD_take {α : Type} (l : List α) (i j : Nat) (z : α) (h : j < i) : (l.take i).getD j z = l.getD j z := by
  simp [List.getD, List.getElem?_take, h]
def idx {α : Type} (p : α → Bool) (l : List α) : Int := match l.findIdx? p with
  | some i => i
  | none => -1

theorem idx_at {α : Type} {p : α → Bool} {l : List α} {k : Nat} {z : α} (hk : k < l.length) (h : ∀ y ∈ l.take k, p y = false) (hp : p (l.getD k z) = true) : idx p l = k := by
  have : l.findIdx? p = some k := by
    rw [List.findIdx?_eq_some_iff_getElem]
    refine ⟨hk, ?_, fun j hj => ?_⟩
    · simpa [List.getD, List.getElem?_eq_getElem hk] using hp
    · have := h (l[j]'(by omega)) (by rw [List.mem_take_iff_getElem]; exact ⟨j, by omega, rfl⟩)
      simp [this]
  simp [idx, this]

theorem idx_none {α : Type} {p : α → Bool} {l : List α} (h : ∀ y ∈ l, p y = false) : idx p l = -1 := by
  have : l.findIdx? p = none := by
    rw [List.findIdx?_eq_none_iff]
    exact h
  simp [idx, this]

theorem idx_any {α : Type} (p : α → Bool) (l : List α) : decide (0 ≤ idx p l) = l.any p := by
  unfold idx
  cases h : l.findIdx? p with
  | none =>
    rw [List.findIdx?_eq_none_iff] at h
    have : l.any p = false := by rw [List.any_eq_false]; intro x hx; simp [h x hx]
    simp [this]
  | some i =>
    rw [List.findIdx?_eq_some_iff_getElem] at h
    obtain ⟨h1, h2, _⟩ := h
    have : l.any p = true := by rw [List.any_eq_true]; exact ⟨_, List.getElem_mem h1, h2⟩
    simp [this]
def dup (l : List Int) (i : Nat) : Bool := (l.take i).any fun y => decide (max y (-y) = max (l.getD i 0) (-l.getD i 0))
def wrongFrom (n : Int) (l : List Int) (i : Nat) : Int × Int :=
  if i < l.length then
    if l.getD i 0 = 0 ∨ l.getD i 0 < -n ∨ n < l.getD i 0 then (3, i)
    else if dup l i = true then (7, i) else wrongFrom n l (i + 1)
  else (0, 0)
termination_by l.length - i
def wrong (n : Int) (l : List Int) : Int × Int := wrongFrom n l 0

def checkFrom (n : Int) (ls : List (List Int)) (i : Nat) : Int × Int :=
  if i < ls.length then
    if 24 < (ls.getD i []).length then (2, i)
    else if (wrong n (ls.getD i [])).1 ≠ 0 then ((wrong n (ls.getD i [])).1, i)
    else checkFrom n ls (i + 1)
  else (0, 0)
termination_by ls.length - i
def check (n : Int) (ls : List (List Int)) : Int × Int :=
  if n < 0 ∨ 120 < n then (3, 0) else if 400 < ls.length then (2, 0) else checkFrom n ls 0
def listed (n : Int) (l : List Int) : Int × Int := if (wrong n l).1 ≠ 0 then ((wrong n l).1, -1 - (wrong n l).2) else (0, 0)
def beside (n : Int) (ls : List (List Int)) (l : List Int) : Int × Int := if (check n ls).1 = 0 then listed n l else check n ls
def withA (n : Int) (ls : List (List Int)) (m : Nat) : Int × Int := if (check n ls).1 = 0 ∧ (m : Int) ≠ n then (9, -1) else check n ls
def lit (a : List Bool) (x : Int) : Bool := if 0 < x then a.getD (x - 1).toNat false else !a.getD (-x - 1).toNat false
def sat (a : List Bool) (l : List Int) : Bool := l.any (lit a)
def all (a : List Bool) (ls : List (List Int)) : Bool := ls.all (sat a)
def Good (n : Nat) (l : List Int) : Prop := ∀ x ∈ l, x ≠ 0 ∧ -(n : Int) ≤ x ∧ x ≤ n

def bits (n : Nat) (w : Int) : List Bool := (List.range n).map fun i => decide (w / 2 ^ (n - 1 - i) % 2 = 1)

def flip (a : List Bool) (v : Int) : List Bool := a.set (v - 1).toNat (!a.getD (v - 1).toNat false)
def brk (a : List Bool) (v : Int) (l : List Int) : Bool := sat a l && !sat (flip a v) l
def breaks (ls : List (List Int)) (a : List Bool) (v : Int) : Nat := (ls.filter (brk a v)).length
theorem wrong_ok {n : Int} {l : List Int} (h : (wrong n l).1 = 0) : ∀ x ∈ l, x ≠ 0 ∧ -n ≤ x ∧ x ≤ n := by
  have key : ∀ i, (wrongFrom n l i).1 = 0 → ∀ j, i ≤ j → (hj : j < l.length) → l[j] ≠ 0 ∧ -n ≤ l[j] ∧ l[j] ≤ n := by
    intro i
    induction hm : l.length - i generalizing i with
    | zero => intro _ j h1 h2; omega
    | succ m ih =>
      intro h j h1 h2
      rw [wrongFrom, if_pos (by omega)] at h
      split at h
      · simp at h
      · rename_i hr
        split at h
        · simp at h
        · by_cases e : j = i
          · subst e
            simp only [List.getD, List.getElem?_eq_getElem h2, Option.getD_some] at hr
            omega
          · exact ih (i + 1) (by omega) h j (by omega) h2
  intro x hx
  obtain ⟨j, hj, rfl⟩ := List.getElem_of_mem hx
  exact key 0 h j (Nat.zero_le _) hj

theorem wrong_at (n : Int) (l : List Int) : 0 ≤ (wrong n l).2 ∧ (wrong n l).2 ≤ l.length := by
  have key : ∀ i, 0 ≤ (wrongFrom n l i).2 ∧ (wrongFrom n l i).2 ≤ l.length := by
    intro i
    induction hm : l.length - i generalizing i with
    | zero => rw [wrongFrom, if_neg (by omega)]; simp
    | succ m ih =>
      rw [wrongFrom, if_pos (by omega)]
      split
      · simp; omega
      · split
        · simp; omega
        · exact ih (i + 1) (by omega)
  exact key 0

theorem check_ok {n : Int} {ls : List (List Int)} (h : (check n ls).1 = 0) : (0 ≤ n ∧ n ≤ 120) ∧ ls.length ≤ 400 ∧ ∀ l ∈ ls, l.length ≤ 24 ∧ (wrong n l).1 = 0 := by
  unfold check at h
  split at h
  · exact absurd h (by decide)
  · rename_i h1
    split at h
    · exact absurd h (by decide)
    · rename_i h2
      refine ⟨by omega, by omega, ?_⟩
      have key : ∀ i, (checkFrom n ls i).1 = 0 → ∀ j, i ≤ j → (hj : j < ls.length) → ls[j].length ≤ 24 ∧ (wrong n ls[j]).1 = 0 := by
        intro i
        induction hm : ls.length - i generalizing i with
        | zero => intro _ j h1 h2; omega
        | succ m ih =>
          intro h j h1 h2
          rw [checkFrom, if_pos (by omega)] at h
          split at h
          · simp at h
          · rename_i hr
            split at h
            · rename_i hr2; exact absurd h hr2
            · rename_i hr2
              by_cases e : j = i
              · subst e
                simp only [List.getD, List.getElem?_eq_getElem h2, Option.getD_some] at hr hr2
                exact ⟨by omega, by simpa using hr2⟩
              · exact ih (i + 1) (by omega) h j (by omega) h2
      intro l hl
      obtain ⟨j, hj, rfl⟩ := List.getElem_of_mem hl
      exact key 0 h j (Nat.zero_le _) hj

theorem check_zero {n : Int} {ls : List (List Int)} (h : (check n ls).1 = 0) : check n ls = (0, 0) := by
  unfold check at h ⊢
  split at h
  · simp at h
  · rename_i h1
    rw [if_neg h1]
    split at h
    · simp at h
    · rename_i h2
      rw [if_neg h2]
      have key : ∀ i, (checkFrom n ls i).1 = 0 → checkFrom n ls i = (0, 0) := by
        intro i
        induction hm : ls.length - i generalizing i with
        | zero => intro _; rw [checkFrom, if_neg (by omega)]
        | succ m ih =>
          intro h
          rw [checkFrom, if_pos (by omega)] at h ⊢
          split at h
          · simp at h
          · rename_i h3
            rw [if_neg h3]
            split at h
            · rename_i h4; exact absurd h h4
            · rename_i h4
              rw [if_neg h4]
              exact ih (i + 1) (by omega) h
      exact key 0 h

theorem step_all {α : Type} {P : α → Prop} {l : List α} {i : Nat} {z : α} (hi : i < l.length) (h : ∀ y ∈ l.take i, P y) (h' : P (l.getD i z)) : ∀ y ∈ l.take (i + 1), P y := by
  rw [take_getD l i z hi]
  intro y hy
  rcases List.mem_append.1 hy with h1 | h1
  · exact h y h1
  · rw [List.mem_singleton.1 h1]; exact h'

def breaksOf (n : Int) (ls : List (List Int)) (a : List Bool) (v : Int) : Int × Int × Int :=
  if (withA n ls a.length).1 ≠ 0 then (0, withA n ls a.length) else if v < 1 ∨ n < v then (0, 3, -1) else (breaks ls a v, 0, 0)
end Sp
end Go.Um

/- Plain definitions and laws: trails. No program in sight. No condition. -/

namespace Go.Um
namespace Sp

def Fine (l : List Int) : Prop := ∀ x ∈ l, -9223372036854775808 < x ∧ x ≤ 9223372036854775807

def falseIn (l t : List Int) (but : Int) : Bool := l.all fun x => decide (x = but) || decide (-x ∈ t)
def free (t : List Int) (x : Int) : Bool := !decide (x ∈ t) && !decide (-x ∈ t)
def must (l t : List Int) : Int := match l.find? (free t) with
  | some x => if falseIn l t x = true then x else 0
  | none => 0

theorem find_at {α : Type} {p : α → Bool} {l : List α} {k : Nat} {z : α} (hk : k < l.length) (h : ∀ y ∈ l.take k, p y = false) (hp : p (l.getD k z) = true) : l.find? p = some (l.getD k z) := by
  have e : l = l.take k ++ (l.getD k z :: l.drop (k + 1)) := by
    have h1 : l.getD k z = l[k] := by simp [List.getD, List.getElem?_eq_getElem hk]
    rw [h1]
    exact (List.take_append_drop k l).symm.trans (by rw [List.drop_eq_getElem_cons hk])
  conv => lhs; rw [e]
  rw [List.find?_append, List.find?_eq_none.2 (fun y hy => by rw [h y hy]; decide)]
  simp only [Option.none_or]
  exact List.find?_cons_of_pos hp

theorem find_none {α : Type} {p : α → Bool} {l : List α} {i : Nat} (hi : l.length ≤ i) (h : ∀ y ∈ l.take i, p y = false) : l.find? p = none := by
  rw [List.take_of_length_le hi] at h
  rw [List.find?_eq_none]
  intro x hx
  rw [h x hx]
  decide
def idxFrom {α : Type} (p : α → Bool) (l : List α) (m : Nat) : Int := match (l.drop m).findIdx? p with
  | some i => m + i
  | none => -1

theorem idxFrom_zero {α : Type} (p : α → Bool) (l : List α) : idxFrom p l 0 = idx p l := by
  simp only [idxFrom, idx, List.drop_zero]
  cases l.findIdx? p <;> simp
theorem idxFrom_range {α : Type} (p : α → Bool) (l : List α) (m : Nat) : idxFrom p l m = -1 ∨ (0 ≤ idxFrom p l m ∧ idxFrom p l m < l.length) := by
  unfold idxFrom
  cases h : (l.drop m).findIdx? p with
  | none => left; rfl
  | some i =>
    right
    rw [List.findIdx?_eq_some_iff_getElem] at h
    obtain ⟨h1, _⟩ := h
    simp at h1
    simp
    omega

def conf (ls : List (List Int)) (t : List Int) : Int := idx (fun l => falseIn l t 0) ls
def unit (ls : List (List Int)) (t : List Int) : Int := idx (fun l => !decide (must l t = 0)) ls
def room (ls : List (List Int)) (t : List Int) : Nat := (ls.flatten.filter fun x => !decide (x ∈ t)).length

theorem must_spec {l t : List Int} (h : must l t ≠ 0) : must l t ∈ l ∧ must l t ∉ t ∧ -must l t ∉ t ∧ falseIn l t (must l t) = true := by
  unfold must at h ⊢
  cases hf : l.find? (free t) with
  | none => rw [hf] at h; exact absurd rfl h
  | some x =>
    rw [hf] at h
    simp only at h ⊢
    by_cases hx : falseIn l t x = true
    · simp only [hx, if_true]
      have h1 := List.find?_some hf
      simp only [free, Bool.and_eq_true, Bool.not_eq_true', decide_eq_false_iff_not] at h1
      exact ⟨List.mem_of_find?_eq_some hf, h1.1, h1.2, trivial⟩
    · simp [hx] at h

theorem room_less {ls : List (List Int)} {t : List Int} {x : Int} (h1 : x ∈ ls.flatten) (h2 : x ∉ t) : room ls (t ++ [x]) < room ls t := by
  unfold room
  generalize ls.flatten = m at h1
  induction m with
  | nil => cases h1
  | cons y m ih =>
    have mono : ∀ k : List Int, (k.filter fun z => !decide (z ∈ t ++ [x])).length ≤ (k.filter fun z => !decide (z ∈ t)).length := by
      intro k
      induction k with
      | nil => simp
      | cons z k ih =>
        by_cases hz : z ∈ t
        · simp [hz]; simpa using ih
        · by_cases hzx : z = x
          · subst hzx; simp [h2]; have := ih; simp at this; omega
          · simp [hz, hzx]; simpa using ih
    rcases List.mem_cons.1 h1 with rfl | h
    · have := mono m
      simp [h2] at this ⊢
      omega
    · have := ih h
      by_cases hz : y ∈ t
      · simp [hz] at this ⊢; exact this
      · by_cases hzx : y = x
        · subst hzx; simp [h2] at this ⊢; omega
        · simp [hz, hzx] at this ⊢; exact this

theorem idx_mem {α : Type} {p : α → Bool} {l : List α} (z : α) (h : ¬ idx p l < 0) : (idx p l).toNat < l.length ∧ p (l.getD (idx p l).toNat z) = true := by
  unfold idx at h ⊢
  cases hf : l.findIdx? p with
  | none => rw [hf] at h; simp at h
  | some i =>
    rw [List.findIdx?_eq_some_iff_getElem] at hf
    obtain ⟨h1, h2, _⟩ := hf
    simp only [Int.toNat_natCast]
    exact ⟨h1, by simpa [List.getD, List.getElem?_eq_getElem h1] using h2⟩

theorem unit_mem {ls : List (List Int)} {t : List Int} (h : ¬ unit ls t < 0) : must (ls.getD (unit ls t).toNat []) t ≠ 0 ∧ ls.getD (unit ls t).toNat [] ∈ ls := by
  obtain ⟨h1, h2⟩ := idx_mem [] h
  simp only [Bool.not_eq_true', decide_eq_false_iff_not] at h2
  exact ⟨h2, getD_mem ls _ [] h1⟩
def on (ls : List (List Int)) (t w : List Int) : List Int × List Int × Int :=
  if 0 ≤ conf ls t then (t, w, conf ls t)
  else if h : unit ls t < 0 then (t, w, -1)
  else on ls (t ++ [must (ls.getD (unit ls t).toNat []) t]) (w ++ [unit ls t])
termination_by room ls t
decreasing_by
  obtain ⟨h1, h2⟩ := unit_mem h
  obtain ⟨h3, h4, _⟩ := must_spec h1
  exact room_less (List.mem_flatten.2 ⟨_, h2, h3⟩) h4

theorem on_step {ls : List (List Int)} {t : List Int} (hu : ¬ unit ls t < 0) : room ls (t ++ [must (ls.getD (unit ls t).toNat []) t]) < room ls t := by
  obtain ⟨h1, h2⟩ := unit_mem hu
  obtain ⟨h3, h4, _⟩ := must_spec h1
  exact room_less (List.mem_flatten.2 ⟨_, h2, h3⟩) h4
end Sp
end Go.Um

/- Plain definitions and laws: numbers of literals. No program in sight. No condition. -/

namespace Go.Um
namespace Sp

def cardWrong (n : Int) (l : List Int) : Int × Int := if n < 0 ∨ 16 < n then (3, 0) else if 8 < l.length then (2, 0) else listed n l
def counted (n : Int) (l : List Int) (k : Int) : Int × Int := if (cardWrong n l).1 ≠ 0 then cardWrong n l else if k < 0 ∨ 8 < k then (3, -1) else (0, 0)

def bit (s : Nat) (i : Nat) : Bool := decide ((s : Int) / 2 ^ i % 2 = 1)
def subTo (l : List Int) (s i : Nat) : List Int := ((List.range i).filter (bit s)).map fun j => l.getD j 0
def sub (l : List Int) (s : Nat) : List Int := subTo l s l.length
def someTo (l : List Int) (k : Int) (s : Nat) : List (List Int) := ((List.range s).map (sub l)).filter fun c => decide ((c.length : Int) = k)
def some (l : List Int) (k : Int) : List (List Int) := someTo l k (2 ^ l.length)

def negs (l : List Int) : List Int := l.map fun x => -x
def most (n : Int) (l : List Int) (k : Int) : Int × List (List Int) × Int × Int :=
  if (counted n l k).1 ≠ 0 then (0, [], counted n l k) else (n, some (negs l) (k + 1), 0, 0)
def least (n : Int) (l : List Int) (k : Int) : Int × List (List Int) × Int × Int :=
  if (counted n l k).1 ≠ 0 then (0, [], counted n l k) else if k = 0 then (n, [], 0, 0) else if (l.length : Int) < k then (n, [[]], 0, 0) else (n, some l (l.length - k + 1), 0, 0)

def holding (a : List Bool) (l : List Int) : Nat := (l.filter (lit a)).length

def litAt (a : List Bool) (i : Nat) : Int := if a.getD i false = true then (i : Int) + 1 else -(i : Int) - 1
def literals (a : List Bool) : List Int := (List.range a.length).map (litAt a)
def literalsTo (a : List Bool) (i : Nat) : List Int := (List.range i).map (litAt a)
end Sp
end Go.Um

/- Plain laws: clauses that count. No program in sight. No condition. -/

namespace Go.Um
namespace Sp

def av (x : Int) : Int := max x (-x)

theorem wrong_iff {n : Int} {l : List Int} : (wrong n l).1 = 0 ↔ (∀ x ∈ l, x ≠ 0 ∧ -n ≤ x ∧ x ≤ n) ∧ l.Pairwise fun x y => av x ≠ av y := by
  have key : ∀ i, (wrongFrom n l i).1 = 0 ↔ ∀ j, i ≤ j → j < l.length → (l.getD j 0 ≠ 0 ∧ -n ≤ l.getD j 0 ∧ l.getD j 0 ≤ n) ∧ dup l j = false := by
    intro i
    induction hm : l.length - i generalizing i with
    | zero =>
      rw [wrongFrom, if_neg (by omega)]
      exact ⟨fun _ j h1 h2 => by omega, fun _ => rfl⟩
    | succ m ih =>
      rw [wrongFrom, if_pos (by omega)]
      by_cases h1 : l.getD i 0 = 0 ∨ l.getD i 0 < -n ∨ n < l.getD i 0
      · rw [if_pos h1]
        refine ⟨fun h => by simp at h, fun h => ?_⟩
        have := (h i (Nat.le_refl _) (by omega)).1
        omega
      · rw [if_neg h1]
        by_cases h2 : dup l i = true
        · rw [if_pos h2]
          refine ⟨fun h => by simp at h, fun h => ?_⟩
          have := (h i (Nat.le_refl _) (by omega)).2
          rw [h2] at this; cases this
        · rw [if_neg h2, ih (i + 1) (by omega)]
          refine ⟨fun h j h3 h4 => ?_, fun h j h3 h4 => h j (by omega) h4⟩
          by_cases e : j = i
          · subst e
            exact ⟨by omega, by simpa using h2⟩
          · exact h j (by omega) h4
  rw [wrong, key 0]
  have gd : ∀ j (h : j < l.length), l.getD j 0 = l[j] := fun j h => by simp [List.getD, List.getElem?_eq_getElem h]
  constructor
  · intro h
    refine ⟨fun x hx => ?_, ?_⟩
    · obtain ⟨j, hj, rfl⟩ := List.getElem_of_mem hx
      rw [← gd j hj]
      exact (h j (Nat.zero_le _) hj).1
    · rw [List.pairwise_iff_getElem]
      intro i j hi hj hij
      have hd := (h j (Nat.zero_le _) hj).2
      unfold dup at hd
      rw [List.any_eq_false] at hd
      have := hd l[i] (by rw [List.mem_take_iff_getElem]; exact ⟨i, by omega, rfl⟩)
      rw [gd j hj] at this
      simpa [av] using this
  · rintro ⟨h1, h2⟩ j _ hj
    refine ⟨by rw [gd j hj]; exact h1 _ (List.getElem_mem hj), ?_⟩
    unfold dup
    rw [List.any_eq_false]
    intro y hy
    rw [List.mem_take_iff_getElem] at hy
    obtain ⟨i, hi, rfl⟩ := hy
    rw [List.pairwise_iff_getElem] at h2
    have := h2 i j (by omega) hj (by omega)
    rw [gd j hj]
    simpa [av] using this

theorem check_of {n : Int} {ls : List (List Int)} (h1 : 0 ≤ n ∧ n ≤ 120) (h2 : ls.length ≤ 400) (h3 : ∀ l ∈ ls, l.length ≤ 24 ∧ (wrong n l).1 = 0) : check n ls = (0, 0) := by
  rw [check, if_neg (by omega), if_neg (by omega)]
  have key : ∀ i, checkFrom n ls i = (0, 0) := by
    intro i
    induction hm : ls.length - i generalizing i with
    | zero => rw [checkFrom, if_neg (by omega)]
    | succ m ih =>
      have := h3 _ (getD_mem ls i [] (by omega))
      rw [checkFrom, if_pos (by omega), if_neg (by omega), if_neg (by rw [this.2]; simp)]
      exact ih (i + 1) (by omega)
  exact key 0

end Sp
end Go.Um

/- Plain facts: parities. No condition. -/


namespace Go.Um
namespace Sp

def Inc (n : Int) (zs : List Int) : Prop := (∀ z ∈ zs, 1 ≤ z ∧ z ≤ n) ∧ zs.Pairwise (fun x y => x < y)

def srt (l : List Int) : List Int := l.mergeSort fun x y => decide (x ≤ y)

def side (a b : List Int) (i : Nat) : List Int := (a.take i).filter fun x => !decide (x ∈ b)
def psum (a b : List Int × Bool) : List Int × Bool := (srt (side a.1 b.1 a.1.length ++ side b.1 a.1 b.1.length), a.2 != b.2)
def oneTo (k : Nat) (p : Int → Bool) : List Int := ((List.range k).map fun (i : Nat) => (i : Int) + 1).filter p
def xmem (a b : List Int) (v : Int) : Bool := decide (v ∈ a) != decide (v ∈ b)

def sumOf (n : Int) (a b : List Int × Bool) : (List Int × Bool) × (Int × Int) := if (parCheck n [a, b]).1 ≠ 0 then (([], false), parCheck n [a, b]) else (psum a b, (0, 0))

theorem ints_eq {a b : List Int} (h1 : a.length = b.length) (h2 : ∀ j, j < a.length → a.getD j 0 = b.getD j 0) : a = b := by
  apply List.ext_getElem h1
  intro i hi hi'
  have := h2 i hi
  simpa [List.getD, hi, hi'] using this

end Sp
end Go.Um

/- Plain facts: literals in order, the search by flips. No condition. -/


namespace Go.Um
namespace Sp

def cmpI (x y : Int) : Int := if x < y then -1 else if y < x then 1 else 0
def ord (a b : Int) : Int := if cmpI (av a) (av b) ≠ 0 then cmpI (av a) (av b) else cmpI b a
def ltO (a b : Int) : Bool := decide (ord a b < 0)
def litSort (l : List Int) : List Int := l.mergeSort fun x y => !ltO y x

theorem ltO_iff {a b : Int} : ltO a b = true ↔ av a < av b ∨ (av a = av b ∧ b < a) := by
  unfold ltO ord cmpI
  rw [decide_eq_true_eq]
  repeat' split
  all_goals omega

theorem litSort_len (l : List Int) : (litSort l).length = l.length := List.length_mergeSort _
def orD (l : List Int) : Int := (l.find? fun y => decide (y ≠ 0)).getD 0
theorem orD_none {l : List Int} (h : ∀ y ∈ l, y = 0) : orD l = 0 := by
  unfold orD
  rw [List.find?_eq_none.2 (fun y hy => by simp [h y hy])]
  rfl
theorem orD_at {l : List Int} {i : Nat} (hi : i < l.length) (h : ∀ y ∈ l.take i, y = 0) (hne : l.getD i 0 ≠ 0) : orD l = l.getD i 0 := by
  have e : l = l.take i ++ l.getD i 0 :: l.drop (i + 1) := by
    conv => lhs; rw [← List.take_append_drop (i + 1) l, take_getD l i 0 hi]
    simp
  unfold orD
  conv => lhs; rw [e]
  rw [List.find?_append, List.find?_eq_none.2 (fun y hy => by simp [h y hy]), Option.none_or, List.find?_cons_of_pos (by exact decide_eq_true hne)]
  rfl
theorem orD_two (x y : Int) : orD [x, y] = if x ≠ 0 then x else y := by
  by_cases h : x = 0 <;> by_cases h2 : y = 0 <;> simp [orD, h, h2]

def pstep (br : Int → Nat) (b v : Int) : Int := if b = 0 ∨ br v < br b then v else b
def open_ (c : List Int) (last v : Int) : Bool := !(decide (v = last) && decide (1 < c.length))
def choice (ls : List (List Int)) (a : List Bool) (c : List Int) (last : Int) : Int := (((litSort c).map av).filter (open_ c last)).foldl (pstep (breaks ls a)) 0
def upto (n : Nat) : List Int := (List.range n).map fun (i : Nat) => (i : Int) + 1
def inC (c : List Int) (v : Int) : Bool := decide (v ∈ c) || decide (-v ∈ c)

def unsat (ls : List (List Int)) (a : List Bool) : Int := idx (fun l => !sat a l) ls
def wnext (ls : List (List Int)) (a : List Bool) (last : Int) : Option Int :=
  if unsat ls a < 0 ∨ (ls.getD (unsat ls a).toNat []).length = 0 then none else Option.some (choice ls a (ls.getD (unsat ls a).toNat []) last)
def walkR (ls : List (List Int)) : Nat → List Bool → Int → Nat → List Bool × Nat
  | 0, a, _, d => (a, d)
  | f + 1, a, last, d => match wnext ls a last with
    | none => (a, d)
    | .some b => walkR ls f (flip a b) b (d + 1)

def walkOf (n : Int) (ls : List (List Int)) (a : List Bool) (flips : Int) : List Bool × Int × Int × Int :=
  if (withA n ls a.length).1 ≠ 0 then ([], 0, withA n ls a.length) else if flips < 0 ∨ 2000 < flips then ([], 0, 3, -1) else
  ((walkR ls flips.toNat a 0 0).1, (walkR ls flips.toNat a 0 0).2, 0, 0)

def unlike (a b : List Bool) : Nat := ((List.range a.length).filter fun i => decide (a.getD i false ≠ b.getD i false)).length

def chTo (ls : List (List Int)) (a : List Bool) (c : List Int) (last : Int) (i : Nat) : Int := ((((litSort c).map av).take i).filter (open_ c last)).foldl (pstep (breaks ls a)) 0
def rcTo (ls : List (List Int)) (a : List Bool) (n : Nat) (c : List Int) (last : Int) (i : Nat) : Int := (((upto n).take i).filter (fun v => open_ c last v && inC c v)).foldl (pstep (breaks ls a)) 0

def unlTo (a b : List Bool) (i : Nat) : Nat := ((List.range i).filter fun i => decide (a.getD i false ≠ b.getD i false)).length
end Sp
end Go.Um

/- Plain facts: lists of lists in order, without repeats. No condition. -/

namespace Go.Um
namespace Sp

structure Lt {α : Type} (lt : α → α → Bool) : Prop where
  irr : ∀ x, lt x x = false
  tr : ∀ x y z, lt x y = true → lt y z = true → lt x z = true
  tot : ∀ x y, lt x y = false → lt y x = false → x = y
def ltL {α : Type} (lt : α → α → Bool) : List α → List α → Bool
  | [], [] => false
  | [], _ :: _ => true
  | _ :: _, [] => false
  | x :: xs, y :: ys => lt x y || (!lt y x && ltL lt xs ys)
def cmpL (cf : Int → Int → Int) : List Int → List Int → Int
  | [], [] => 0
  | [], _ :: _ => -1
  | _ :: _, [] => 1
  | x :: xs, y :: ys => if cf x y ≠ 0 then cf x y else cmpL cf xs ys

def fresh {α : Type} [DecidableEq α] (z : α) (xs : List α) (i : Nat) : Bool := decide (i = 0) || decide (xs.getD i z ≠ xs.getD (i - 1) z)
def cmpTo {α : Type} [DecidableEq α] (z : α) (xs : List α) (i : Nat) : List α := ((List.range i).filter (fresh z xs)).map fun j => xs.getD j z
def compact {α : Type} [DecidableEq α] (z : α) (xs : List α) : List α := cmpTo z xs xs.length

section
variable {α : Type} [DecidableEq α] {z : α} {xs : List α}
omit [DecidableEq α] in
theorem set_next {c : List α} {j : Nat} (hc : c.length < xs.length) : (c ++ xs.drop c.length).set c.length (xs.getD j z) = (c ++ [xs.getD j z]) ++ xs.drop (c.length + 1) := by
  have e : xs.drop c.length = xs[c.length] :: xs.drop (c.length + 1) := List.drop_eq_getElem_cons hc
  rw [List.set_append_right _ _ (Nat.le_refl _), Nat.sub_self, e, List.set_cons_zero, List.append_assoc]
  rfl
omit [DecidableEq α] in
theorem row_at {c : List α} {j : Nat} (hc : c.length ≤ j) : (c ++ xs.drop c.length).getD j z = xs.getD j z := by
  simp only [List.getD_eq_getElem?_getD]
  rw [List.getElem?_append_right hc, List.getElem?_drop]
  congr 2
  omega
omit [DecidableEq α] in
theorem row_len {c : List α} (hc : c.length ≤ xs.length) : (c ++ xs.drop c.length).length = xs.length := by simp; omega
end

theorem cleared {α : Type} {c d r : List α} : ((((c ++ d).take c.length) ++ r).drop 0).take (c.length - 0) = c := by simp
def nub {α : Type} [DecidableEq α] (z : α) (lt : α → α → Bool) (l : List α) : List α := compact z (l.mergeSort fun x y => !lt y x)

def nrm (ls : List (List Int)) : List (List Int) := nub [] (ltL ltO) (ls.map litSort)

end Sp
end Go.Um
