/- Plain functions: values and tables of decision diagrams. No program in sight. No condition. -/
import Derived.Test.YtofonmfoificjaaSp7
import Derived.Test.YtofonmfoificjaaSv
import Derived.Test.YtofonmfoificjaaSp3
namespace Go.Um
namespace Sp

def dval (l : List Cho) (a : List Bool) : Nat → Int → Bool
  | 0, i => decide (i = 1)
  | f + 1, i => if i < 2 then decide (i = 1) else dval l a f (if a.getD ((l.getD (i - 2).toNat (0, 0, 0)).1 - 1).toNat false = true then (l.getD (i - 2).toNat (0, 0, 0)).2.2 else (l.getD (i - 2).toNat (0, 0, 0)).2.1)
def dvalue (l : List Cho) (r : Int) (a : List Bool) : Bool := dval l a r.toNat r

theorem dval_fuel {l : List Cho} (hV : Valid l) (a : List Bool) : ∀ (f g : Nat) (i : Int), i ≤ f → i ≤ g → i < l.length + 2 → dval l a f i = dval l a g i
  | 0, 0, i, _, _, _ => rfl
  | 0, g + 1, i, h, _, _ => by rw [dval, dval, if_pos (by omega)]
  | f + 1, 0, i, _, h, _ => by rw [dval, dval, if_pos (by omega)]
  | f + 1, g + 1, i, h1, h2, h3 => by
    rw [dval, dval]
    split
    · rfl
    · have hv := hV (i - 2).toNat (by omega)
      refine dval_fuel hV a f g _ ?_ ?_ ?_ <;> split <;> omega

theorem dval_step {l : List Cho} (hV : Valid l) (a : List Bool) (i j : Int) (h2 : 2 ≤ i) (h3 : i < l.length + 2) (hj : j = if a.getD ((l.getD (i - 2).toNat (0, 0, 0)).1 - 1).toNat false = true then (l.getD (i - 2).toNat (0, 0, 0)).2.2 else (l.getD (i - 2).toNat (0, 0, 0)).2.1) :
    dval l a i.toNat i = dval l a j.toNat j := by
  have e : i.toNat = (i.toNat - 1) + 1 := by omega
  have hv := hV (i - 2).toNat (by omega)
  rw [e, dval, if_neg (by omega), ← hj]
  refine dval_fuel hV a _ _ _ ?_ ?_ ?_ <;> (rw [hj]; split <;> omega)
theorem dval_end {l : List Cho} (a : List Bool) (i : Int) (h0 : 0 ≤ i) (h : i < 2) : dval l a i.toNat i = decide (i = 1) := by
  cases e : i.toNat with
  | zero => rw [dval]
  | succ f => rw [dval, if_pos h]

/-- The table of a function. -/
def dtab (p : List Bool → Bool) (n : Nat) : List Bool := (List.range (2 ^ n)).map fun (w : Nat) => p (bits n w)
def b01 (b : Bool) : Int := if b then 1 else 0
def btab (p : List Bool → Bool) (n : Nat) : List Int := (dtab p n).map b01
theorem dtab_len (p : List Bool → Bool) (n : Nat) : (dtab p n).length = 2 ^ n := by simp [dtab]
theorem btab_len (p : List Bool → Bool) (n : Nat) : (btab p n).length = 2 ^ n := by simp [btab, dtab]
theorem dtab_at (p : List Bool → Bool) (n i : Nat) (h : i < 2 ^ n) : (dtab p n).getD i false = p (bits n i) := by
  rw [List.getD_eq_getElem?_getD, List.getElem?_eq_getElem (by rw [dtab_len]; exact h)]; simp [dtab]
theorem btab_at (p : List Bool → Bool) (n i : Nat) (h : i < 2 ^ n) : (btab p n).getD i 0 = b01 (p (bits n i)) := by
  rw [List.getD_eq_getElem?_getD, List.getElem?_eq_getElem (by rw [btab_len]; exact h)]; simp [btab, dtab]
theorem b01_le (b : Bool) : 0 ≤ b01 b ∧ b01 b ≤ 1 := by cases b <;> decide
theorem b01_one (b : Bool) : b01 b = 1 ↔ b = true := by cases b <;> decide

theorem btab_yes {p : List Bool → Bool} {n i : Nat} (h : i < 2 ^ n) (hp : p (bits n i) = true) : ((btab p n).take i ++ List.replicate (2 ^ n - i) 0).set i 1 = (btab p n).take (i + 1) ++ List.replicate (2 ^ n - (i + 1)) 0 := by
  have hl : ((btab p n).take i).length = i := by rw [List.length_take, btab_len]; omega
  have e1 : (btab p n).getD i 0 = 1 := by rw [btab_at p n i h, hp]; rfl
  rw [take_getD _ i 0 (by rw [btab_len]; exact h), e1, List.set_append_right _ _ (by omega), hl, Nat.sub_self]
  rw [show 2 ^ n - i = (2 ^ n - (i + 1)) + 1 by omega, List.replicate_succ]
  simp
theorem btab_no {p : List Bool → Bool} {n i : Nat} (h : i < 2 ^ n) (hp : p (bits n i) = false) : (btab p n).take i ++ List.replicate (2 ^ n - i) 0 = (btab p n).take (i + 1) ++ List.replicate (2 ^ n - (i + 1)) 0 := by
  have e1 : (btab p n).getD i 0 = 0 := by rw [btab_at p n i h, hp]; rfl
  rw [take_getD _ i 0 (by rw [btab_len]; exact h), e1]
  rw [show 2 ^ n - i = (2 ^ n - (i + 1)) + 1 by omega, List.replicate_succ]
  simp

/-- How many are true. -/
def cnt (t : List Bool) : Nat := (t.filter id).length
theorem cnt_yes {t : List Bool} {i : Nat} (hi : i < t.length) (h : t.getD i false = true) : cnt (t.take (i + 1)) = cnt (t.take i) + 1 := filter_yes (z := false) hi h
theorem cnt_no {t : List Bool} {i : Nat} (hi : i < t.length) (h : t.getD i false = false) : cnt (t.take (i + 1)) = cnt (t.take i) := filter_no (z := false) hi h
theorem cnt_step {t : List Bool} {i : Nat} (hi : i < t.length) : (cnt (t.take (i + 1)) : Int) = cnt (t.take i) + b01 (t.getD i false) := by
  cases h : t.getD i false with
  | true => rw [cnt_yes hi h]; rfl
  | false => rw [cnt_no hi h]; simp [b01]
theorem cnt_le (t : List Bool) (i : Nat) : cnt (t.take i) ≤ i := filter_at id t i

/-- Where a table is true. -/
def trsTo (t : List Bool) (i : Nat) : List Int := ((List.range i).filter fun w => t.getD w false).map fun (w : Nat) => (w : Int)
def trs (t : List Bool) : List Int := trsTo t t.length
theorem trsTo_succ (t : List Bool) (i : Nat) : trsTo t (i + 1) = trsTo t i ++ (if t.getD i false = true then [(i : Int)] else []) := by
  simp only [trsTo, List.range_succ, List.filter_append, List.map_append]
  congr 1
  by_cases h : t.getD i false = true
  · rw [if_pos h, List.filter_cons_of_pos (by exact h)]; rfl
  · rw [if_neg h, List.filter_cons_of_neg (by exact h)]; rfl
theorem trsTo_len (t : List Bool) : ∀ (i : Nat), i ≤ t.length → (trsTo t i).length = cnt (t.take i)
  | 0, _ => by simp [trsTo, cnt]
  | i + 1, h => by
    rw [trsTo_succ, List.length_append, trsTo_len t i (by omega)]
    cases hh : t.getD i false with
    | true => rw [cnt_yes (by omega) hh]; rfl
    | false => rw [cnt_no (by omega) hh]; rfl
theorem trs_len (t : List Bool) : (trs t).length = cnt t := by rw [trs, trsTo_len _ _ (Nat.le_refl _), List.take_length]
theorem trsTo_le (t : List Bool) (i : Nat) : (trsTo t i).length ≤ i := by
  simp only [trsTo, List.length_map]
  exact Nat.le_trans (List.length_filter_le _ _) (by simp)
theorem trsTo_pre (t : List Bool) (i : Nat) : ∀ d, ∃ r, trsTo t (i + d) = trsTo t i ++ r
  | 0 => ⟨[], by simp⟩
  | d + 1 => by
    obtain ⟨r, hr⟩ := trsTo_pre t i d
    refine ⟨r ++ (if t.getD (i + d) false = true then [((i + d : Nat) : Int)] else []), ?_⟩
    rw [← Nat.add_assoc, trsTo_succ, hr, List.append_assoc]
theorem trs_at {t : List Bool} {i : Nat} (hi : i < t.length) (h : t.getD i false = true) : (trs t).getD (cnt (t.take i)) 0 = i ∧ cnt (t.take i) < (trs t).length := by
  obtain ⟨r, hr⟩ := trsTo_pre t (i + 1) (t.length - (i + 1))
  rw [show i + 1 + (t.length - (i + 1)) = t.length by omega] at hr
  have e : trs t = trsTo t i ++ ([(i : Int)] ++ r) := by rw [trs, hr, trsTo_succ, if_pos h, List.append_assoc]
  have hl := trsTo_len t i (by omega)
  rw [e]
  constructor
  · rw [← hl, List.getD_eq_getElem?_getD, List.getElem?_append_right (Nat.le_refl _), Nat.sub_self]; rfl
  · rw [List.length_append]; simp; omega
theorem trs_range (t : List Bool) : ∀ x ∈ trs t, 0 ≤ x ∧ x < t.length := by
  intro x hx
  simp only [trs, trsTo, List.mem_map, List.mem_filter, List.mem_range] at hx
  obtain ⟨w, ⟨h1, _⟩, h2⟩ := hx
  omega
theorem trs_true (t : List Bool) : ∀ x ∈ trs t, t.getD x.toNat false = true := by
  intro x hx
  simp only [trs, trsTo, List.mem_map, List.mem_filter, List.mem_range] at hx
  obtain ⟨w, ⟨h1, h3⟩, h2⟩ := hx
  rw [← h2]
  simpa using h3

theorem pow_int (n : Nat) : (2 : Int) ^ n = ((2 ^ n : Nat) : Int) := by simp
theorem pow16 {n : Nat} (h : n ≤ 16) : 2 ^ n ≤ 65536 := Nat.pow_le_pow_right (n := 2) (by decide) h

def tabOf (n : Int) (l : List Cho) (r : Int) : List Bool := dtab (dvalue l r) n.toNat
def diaValue (n : Int) (l : List Cho) (r : Int) (a : List Bool) : Bool × Int × Int :=
  if (diaCheck n l r).1 ≠ 0 then (false, diaCheck n l r) else if (a.length : Int) ≠ n then (false, (9, -1)) else (dvalue l r a, (0, 0))
def diaCount (n : Int) (l : List Cho) (r : Int) : Int × Int × Int :=
  if (diaCheck n l r).1 ≠ 0 then (0, diaCheck n l r) else ((cnt (tabOf n l r) : Int), (0, 0))
def diaPick (n : Int) (l : List Cho) (r k : Int) : List Bool × Int × Int :=
  if (diaCheck n l r).1 ≠ 0 then ([], diaCheck n l r) else if 0 ≤ k ∧ k < (cnt (tabOf n l r) : Int) then (bits n.toNat ((trs (tabOf n l r)).getD k.toNat 0), (0, 0)) else ([], (3, -1))

theorem one_ok : diaCheck 2 [(2, 0, 1), (1, 0, 2)] 3 = (0, 0) := by
  simp [diaCheck, diaFrom, choWrong, lev, fin, vis]
theorem one_value (a b : Bool) : dvalue [(2, 0, 1), (1, 0, 2)] 3 [a, b] = (a && b) := by
  cases a <;> cases b <;> simp [dvalue, dval]
theorem bits2 (w : Int) : bits 2 w = [decide (w / 2 % 2 = 1), decide (w % 2 = 1)] := by simp [bits, List.range_succ]
theorem one_tab : tabOf 2 [(2, 0, 1), (1, 0, 2)] 3 = [false, false, false, true] := by
  simp [tabOf, dtab, List.range_succ, bits2, one_value]
theorem take_end {α : Type} {l : List α} {i : Nat} (h : l.length ≤ i) : l.take i = l := List.take_of_length_le h
theorem bools_eq {a b : List Bool} {i : Nat} (hl : a.length = b.length) (hi : a.length ≤ i) (h : ∀ j, j < i → a.getD j false = b.getD j false) : a = b := by
  apply List.ext_getElem hl
  intro j h1 h2
  have := h j (by omega)
  rw [List.getD_eq_getElem?_getD, List.getD_eq_getElem?_getD, List.getElem?_eq_getElem h1, List.getElem?_eq_getElem h2] at this
  simpa using this
end Sp
end Go.Um
