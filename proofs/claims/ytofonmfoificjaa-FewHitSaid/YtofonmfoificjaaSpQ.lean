/- Plain facts: sets of clauses that can or cannot hold together: one core, the least sets. No condition. -/
import Derived.Test.YtofonmfoificjaaSpP
import Derived.Test.YtofonmfoificjaaSpN
namespace Go.Um
namespace Sp

def tryV (n : Int) (ls : List (List Int)) : Int × Int := if (check n ls).1 ≠ 0 then check n ls else if 16 < n then (2, -1) else (0, 0)

theorem tryV_ok {n : Int} {ls : List (List Int)} (h : (tryV n ls).1 = 0) : (check n ls).1 = 0 ∧ (0 ≤ n ∧ n ≤ 16) ∧ tryV n ls = (0, 0) := by
  unfold tryV at h ⊢
  split at h
  · rename_i h1; exact absurd h h1
  · rename_i h1
    have h1 : (check n ls).1 = 0 := by omega
    rw [if_neg (by omega)]
    have := (check_ok h1).1
    split at h
    · cases h
    · rename_i h2
      rw [if_neg h2]
      exact ⟨h1, by omega, rfl⟩


theorem range_yes {p : Nat → Bool} {k : Nat} (h : p k = true) : (List.range (k + 1)).filter p = (List.range k).filter p ++ [k] := by
  rw [List.range_succ, List.filter_append, List.filter_cons_of_pos h, List.filter_nil]
theorem range_no {p : Nat → Bool} {k : Nat} (h : p k = false) : (List.range (k + 1)).filter p = (List.range k).filter p := by
  rw [List.range_succ, List.filter_append, List.filter_cons_of_neg (by rw [h]; decide), List.filter_nil, List.append_nil]

/-! ### One core -/

def at_ (b : List Bool) (j : Nat) : Bool := b.getD j false
def bTo (n : Nat) (ls : List (List Int)) : Nat → List Bool
  | 0 => List.replicate ls.length true
  | i + 1 => if canHold n ls (at_ ((bTo n ls i).set i false)) = true then bTo n ls i else (bTo n ls i).set i false
def coreTo (n : Nat) (ls : List (List Int)) (i : Nat) : List Int := ((List.range i).filter fun j => canHold n ls (at_ ((bTo n ls j).set j false))).map Int.ofNat
def coreOf (n : Int) (ls : List (List Int)) : List Int × Int × Int :=
  if (tryV n ls).1 ≠ 0 then ([], tryV n ls) else if canHold n.toNat ls (at_ (List.replicate ls.length true)) = true then ([], 11, 0) else (coreTo n.toNat ls ls.length, 0, 0)

theorem bTo_len (n : Nat) (ls : List (List Int)) : ∀ i, (bTo n ls i).length = ls.length
  | 0 => by simp [bTo]
  | i + 1 => by
    have := bTo_len n ls i
    rw [bTo]
    split
    · exact this
    · rw [List.length_set]; exact this
theorem bTo_high (n : Nat) (ls : List (List Int)) : ∀ i j, i ≤ j → j < ls.length → (bTo n ls i).getD j false = true
  | 0, j, _, hj => by simp [bTo, List.getD, hj]
  | i + 1, j, hij, hj => by
    have := bTo_high n ls i j (by omega) hj
    rw [bTo]
    split
    · exact this
    · simp only [List.getD_eq_getElem?_getD] at this ⊢
      rw [List.getElem?_set_ne (by omega)]
      exact this
theorem set_back {b : List Bool} {i : Nat} (h : b.getD i false = true) : (b.set i false).set i true = b := by
  rw [List.set_set]
  apply List.ext_getElem (by simp)
  intro j h1 h2
  by_cases e : j = i
  · subst e
    rw [List.getElem_set_self]
    simp only [List.getD_eq_getElem?_getD, List.getElem?_eq_getElem h2, Option.getD_some] at h
    exact h.symm
  · rw [List.getElem_set_ne (fun h => e h.symm)]
theorem bTo_low (n : Nat) (ls : List (List Int)) {j : Nat} (hj : j < ls.length) : ∀ d, (bTo n ls (j + 1 + d)).getD j false = canHold n ls (at_ ((bTo n ls j).set j false))
  | 0 => by
    have hl := bTo_len n ls j
    show (bTo n ls (j + 1)).getD j false = _
    rw [bTo]
    split
    · rename_i h
      rw [bTo_high n ls j j (Nat.le_refl _) hj, h]
    · rename_i h
      rw [Bool.eq_false_iff.2 h]
      simp [List.getD, hl, hj]
  | d + 1 => by
    have ih := bTo_low n ls hj d
    show (bTo n ls (j + 1 + d + 1)).getD j false = _
    rw [bTo]
    split
    · exact ih
    · simp only [List.getD_eq_getElem?_getD] at ih ⊢
      rw [List.getElem?_set_ne (by omega)]
      exact ih
theorem coreTo_yes {n : Nat} {ls : List (List Int)} {i : Nat} (h : canHold n ls (at_ ((bTo n ls i).set i false)) = true) : coreTo n ls (i + 1) = coreTo n ls i ++ [(i : Int)] ∧ bTo n ls (i + 1) = bTo n ls i := by
  refine ⟨?_, by rw [bTo, if_pos h]⟩
  unfold coreTo
  rw [range_yes (p := fun j => canHold n ls (at_ ((bTo n ls j).set j false))) h, List.map_append]
  rfl
theorem coreTo_no {n : Nat} {ls : List (List Int)} {i : Nat} (h : canHold n ls (at_ ((bTo n ls i).set i false)) = false) : coreTo n ls (i + 1) = coreTo n ls i ∧ bTo n ls (i + 1) = (bTo n ls i).set i false := by
  refine ⟨?_, by rw [bTo, if_neg (by rw [h]; decide)]⟩
  unfold coreTo
  rw [range_no (p := fun j => canHold n ls (at_ ((bTo n ls j).set j false))) h]
theorem coreTo_len (n : Nat) (ls : List (List Int)) (i : Nat) : (coreTo n ls i).length ≤ i := by
  unfold coreTo
  rw [List.length_map]
  exact Nat.le_trans (List.length_filter_le _ _) (by simp)

def smallW (n : Int) (ls : List (List Int)) : Int × Int := if (tryV n ls).1 ≠ 0 then tryV n ls else if 12 < (ls.length : Int) then (2, -1) else (0, 0)

/-- The members told by a list of truths. -/
def setB (m : Nat) (b : List Bool) : List Int := ((List.range m).filter (at_ b)).map Int.ofNat
theorem core_end (n : Nat) (ls : List (List Int)) : setB ls.length (bTo n ls ls.length) = coreTo n ls ls.length := by
  unfold setB coreTo
  congr 1
  refine List.filter_congr (fun j hj => ?_)
  have hj := List.mem_range.1 hj
  have := bTo_low n ls hj (ls.length - j - 1)
  rw [show j + 1 + (ls.length - j - 1) = ls.length by omega] at this
  exact this
theorem setB_all (m : Nat) : setB m (List.replicate m true) = (List.range m).map Int.ofNat := by
  unfold setB
  rw [List.filter_eq_self.2 (fun j hj => by simp [at_, List.getD, List.mem_range.1 hj])]
theorem setB_cut {m i : Nat} {b : List Bool} (hb : b.length = m) (hi : i < m) : (setB m b).filter (fun x => decide (x ≠ (i : Int))) = setB m (b.set i false) := by
  unfold setB
  rw [List.filter_map]
  congr 1
  rw [List.filter_filter]
  refine List.filter_congr (fun j hj => ?_)
  have hj := List.mem_range.1 hj
  simp only [Function.comp_apply, at_, List.getD_eq_getElem?_getD]
  by_cases e : j = i
  · subst e
    simp [hb, hi]
  · rw [List.getElem?_set_ne (fun h => e h.symm)]
    have : decide ((Int.ofNat j) ≠ (i : Int)) = true := decide_eq_true (fun h => e (Int.ofNat.inj h))
    rw [this, Bool.true_and]

/-- Whether the clauses of a list of places can hold together. -/
def pickL (ls : List (List Int)) (s : List Int) : List (List Int) := s.map fun j => ls.getD j.toNat []
theorem pickL_app (ls : List (List Int)) (s : List Int) (x : Int) : pickL ls (s ++ [x]) = pickL ls s ++ [ls.getD x.toNat []] := by simp [pickL]
def someOf (n : Nat) (l : List (List Int)) : Int := idx (fun (w : Nat) => all (bits n w) l) (List.range (2 ^ n))
theorem canHold_set (n : Nat) (ls : List (List Int)) (b : List Bool) : decide (0 ≤ someOf n (pickL ls (setB ls.length b))) = canHold n ls (at_ b) := by
  unfold someOf canHold
  rw [idx_any]
  congr 1
  funext k
  unfold all pickL setB
  rw [List.all_map, List.all_map, Bool.eq_iff_iff, List.all_eq_true, List.all_eq_true]
  constructor
  · intro h j hj
    by_cases hb : at_ b j = true
    · have := h j (List.mem_filter.2 ⟨hj, hb⟩)
      rw [show satB n ls j k = true from this, Bool.or_true]
    · rw [Bool.eq_false_iff.2 hb]; rfl
  · intro h j hj
    obtain ⟨h1, h2⟩ := List.mem_filter.1 hj
    have := h j h1
    rw [h2] at this
    simpa [satB] using this

theorem fill_next {m i : Nat} (hi : i < m) : (List.replicate i true ++ List.replicate (m - i) false).set i true = List.replicate (i + 1) true ++ List.replicate (m - (i + 1)) false := by
  rw [List.set_append_right _ _ (by simp), List.length_replicate, Nat.sub_self, show m - i = (m - (i + 1)) + 1 by omega, List.replicate_succ, List.set_cons_zero, List.replicate_succ', List.append_assoc]
  rfl
theorem fill_all {m i : Nat} (h : i = m) : List.replicate i true ++ List.replicate (m - i) false = List.replicate m true := by
  subst h
  simp
theorem someOf_at {n w : Nat} {l : List (List Int)} (hw : w < 2 ^ n) (h : ∀ v : Nat, v < w → all (bits n v) l = false) (h2 : all (bits n w) l = true) : someOf n l = w := by
  unfold someOf
  refine idx_at (z := 0) (by simpa using hw) (fun y hy => ?_) ?_
  · obtain ⟨j, hj, rfl⟩ := List.getElem_of_mem hy
    rw [List.getElem_take, List.getElem_range]
    exact h j (by simp at hj; omega)
  · have : (List.range (2 ^ n)).getD w 0 = w := by simp [List.getD, hw]
    rw [this]
    exact h2
theorem someOf_none {n : Nat} {l : List (List Int)} (h : ∀ v : Nat, v < 2 ^ n → all (bits n v) l = false) : someOf n l = -1 := by
  unfold someOf
  exact idx_none (fun y hy => h y (List.mem_range.1 hy))
theorem canHold_cut {n : Nat} {ls : List (List Int)} {b : List Bool} {i j : Nat} (hb : b.length = ls.length) (hi : i < ls.length) (hj : (setB ls.length b).length ≤ j) :
    decide (0 ≤ someOf n (pickL ls (((setB ls.length b).take j).filter (fun x => decide (x ≠ (i : Int)))))) = canHold n ls (at_ (b.set i false)) := by
  rw [List.take_of_length_le hj, setB_cut hb hi, canHold_set]
theorem setB_mem {m : Nat} {b : List Bool} {x : Int} (h : x ∈ setB m b) : 0 ≤ x ∧ x < m := by
  unfold setB at h
  obtain ⟨j, hj, rfl⟩ := List.mem_map.1 h
  have := List.mem_range.1 (List.mem_filter.1 hj).1
  exact ⟨Int.natCast_nonneg j, by show ((j : Nat) : Int) < m; omega⟩
theorem setB_len (m : Nat) (b : List Bool) : (setB m b).length ≤ m := by
  unfold setB
  rw [List.length_map]
  exact Nat.le_trans (List.length_filter_le _ _) (by simp)
def upN (i : Nat) : List Int := (List.range i).map Int.ofNat
theorem upN_succ (i : Nat) : upN (i + 1) = upN i ++ [(i : Int)] := by simp [upN, List.range_succ]
theorem upN_len (i : Nat) : (upN i).length = i := by simp [upN]
theorem filt_yes {p : Int → Bool} {l : List Int} {i : Nat} (hi : i < l.length) (h : p (l.getD i 0) = true) : (l.take (i + 1)).filter p = (l.take i).filter p ++ [l.getD i 0] := by
  rw [take_getD l i 0 hi, List.filter_append, List.filter_cons_of_pos h, List.filter_nil]
theorem filt_no {p : Int → Bool} {l : List Int} {i : Nat} (hi : i < l.length) (h : p (l.getD i 0) = false) : (l.take (i + 1)).filter p = (l.take i).filter p := by
  rw [take_getD l i 0 hi, List.filter_append, List.filter_cons_of_neg (by rw [h]; decide), List.filter_nil, List.append_nil]

/-! ### Words as sets -/

theorem tb_bit (w i : Nat) : bit w i = w.testBit i := by
  unfold bit
  rw [Nat.testBit_eq_decide_div_mod_eq]
  refine decide_eq_decide.2 ?_
  have e : ((w : Int) / 2 ^ i % 2 = 1) = ((((w / 2 ^ i % 2 : Nat)) : Int) = ((1 : Nat) : Int)) := by
    rw [Int.natCast_emod, Int.natCast_ediv, Int.natCast_pow]
    rfl
  rw [e, Int.ofNat_inj]

def setL (w m : Nat) : List Int := ((List.range m).filter fun i => w.testBit i).map Int.ofNat
def drop1 (w i : Nat) : Nat := w ^^^ 2 ^ i
theorem drop1_bit {w i : Nat} (h : w.testBit i = true) (j : Nat) : (drop1 w i).testBit j = (w.testBit j && decide (j ≠ i)) := by
  unfold drop1
  rw [Nat.testBit_xor, Nat.testBit_two_pow]
  by_cases e : j = i
  · subst e; simp [h]
  · rw [decide_eq_false (fun h2 => e h2.symm), decide_eq_true e]; simp
theorem sub_iff {x w : Nat} : x &&& w = x ↔ ∀ i, x.testBit i = true → w.testBit i = true := by
  constructor
  · intro h i hi
    rw [← h, Nat.testBit_and, Bool.and_eq_true] at hi
    exact hi.2
  · intro h
    refine Nat.eq_of_testBit_eq (fun i => ?_)
    rw [Nat.testBit_and]
    cases hx : x.testBit i
    · rfl
    · rw [h i hx]; rfl
theorem drop1_lt {w i : Nat} (h : w.testBit i = true) : drop1 w i < w := by
  have h1 : drop1 w i &&& w = drop1 w i := sub_iff.2 (fun j hj => by
    rw [drop1_bit h, Bool.and_eq_true] at hj
    exact hj.1)
  have h2 : drop1 w i ≤ w := by rw [← h1]; exact Nat.and_le_right
  have h3 : drop1 w i ≠ w := fun e => by
    have := drop1_bit h i
    rw [e, h] at this
    simp at this
  omega

theorem drop1_eq {w i : Nat} (h : w.testBit i = true) : w ^^^ (w &&& 2 ^ i) = drop1 w i := by
  unfold drop1
  congr 1
  refine Nat.eq_of_testBit_eq (fun j => ?_)
  rw [Nat.testBit_and, Nat.testBit_two_pow]
  by_cases e : i = j
  · subst e; simp [h]
  · simp [e]
/-- What has been asked so far. -/
def isL (yes : Nat → Bool) (m k : Nat) : List Bool := (List.range (2 ^ m)).map fun w => decide (w < k) && yes w
theorem isL_zero (yes : Nat → Bool) (m : Nat) : isL yes m 0 = List.replicate (2 ^ m) false := by
  unfold isL
  apply List.ext_getElem (by simp)
  intro i h1 h2
  simp
theorem isL_len (yes : Nat → Bool) (m k : Nat) : (isL yes m k).length = 2 ^ m := by simp [isL]
theorem isL_set {yes : Nat → Bool} {m k : Nat} : (isL yes m k).set k (yes k) = isL yes m (k + 1) := by
  unfold isL
  apply List.ext_getElem (by simp)
  intro i h1 h2
  by_cases e : i = k
  · subst e
    rw [List.getElem_set_self]
    simp
  · rw [List.getElem_set_ne (fun h => e h.symm)]
    simp only [List.getElem_map, List.getElem_range]
    rw [show decide (i < k) = decide (i < k + 1) from decide_eq_decide.2 (by omega)]
theorem isL_at {yes : Nat → Bool} {m k w : Nat} (hw : w < k) (hk : k ≤ 2 ^ m) : (isL yes m k).getD w false = yes w := by
  unfold isL
  simp [List.getD, show w < 2 ^ m by omega, hw]
theorem setL_yes {w i : Nat} (h : w.testBit i = true) : setL w (i + 1) = setL w i ++ [(i : Int)] := by
  unfold setL
  rw [range_yes (p := fun i => w.testBit i) h, List.map_append]
  rfl
theorem setL_no {w i : Nat} (h : w.testBit i = false) : setL w (i + 1) = setL w i := by
  unfold setL
  rw [range_no (p := fun i => w.testBit i) h]
theorem setL_len (w m : Nat) : (setL w m).length ≤ m := by
  unfold setL
  rw [List.length_map]
  exact Nat.le_trans (List.length_filter_le _ _) (by simp)
theorem bit_mod {w i : Nat} : ((w : Int) / 2 ^ i % 2 = 1) ↔ w.testBit i = true := by
  rw [← tb_bit]
  unfold bit
  rw [decide_eq_true_iff]
def leastTo (yes : Nat → Bool) (w : Nat) : Nat → Bool
  | 0 => yes w
  | i + 1 => if w.testBit i = true then leastTo yes w i && !yes (drop1 w i) else leastTo yes w i
theorem bit_even {w i : Nat} : decide ((w : Int) / 2 ^ i % 2 = 0) = !w.testBit i := by
  rw [Bool.eq_iff_iff, decide_eq_true_iff, Bool.not_eq_true', Bool.eq_false_iff]
  constructor
  · intro h h2
    have := bit_mod.2 h2
    omega
  · intro h
    have h2 : ¬ ((w : Int) / 2 ^ i % 2 = 1) := fun h3 => h (bit_mod.1 h3)
    have h3 := Int.emod_two_eq ((w : Int) / 2 ^ i)
    omega
theorem leastTo_yes {yes : Nat → Bool} {w i : Nat} (h : w.testBit i = true) : leastTo yes w (i + 1) = (leastTo yes w i && !yes (drop1 w i)) := by rw [leastTo, if_pos h]
theorem leastTo_no {yes : Nat → Bool} {w i : Nat} (h : w.testBit i = false) : leastTo yes w (i + 1) = leastTo yes w i := by rw [leastTo, if_neg (by rw [h]; decide)]
def listsTo (yes : Nat → Bool) (m k : Nat) : List (List Int) := ((List.range k).filter fun w => leastTo yes w m).map fun w => setL w m
def lists (yes : Nat → Bool) (m : Nat) : List (List Int) := (listsTo yes m (2 ^ m)).mergeSort fun x y => !ltL lti y x
def leastR (yes : Nat → Bool) (w o : Nat) : Bool := yes w && (List.range o).all fun x => !(decide (x &&& w = x) && yes x)
def listsR (yes : Nat → Bool) (m k : Nat) : List (List Int) := ((List.range k).filter fun w => leastR yes w w).map fun w => setL w m
def nubL : List (List Int) → List (List Int) := nub [] (ltL lti)

theorem listsTo_yes {yes : Nat → Bool} {m k : Nat} (h : leastTo yes k m = true) : listsTo yes m (k + 1) = listsTo yes m k ++ [setL k m] := by
  unfold listsTo
  rw [range_yes (p := fun w => leastTo yes w m) h, List.map_append]
  rfl
theorem listsTo_no {yes : Nat → Bool} {m k : Nat} (h : leastTo yes k m = false) : listsTo yes m (k + 1) = listsTo yes m k := by
  unfold listsTo
  rw [range_no (p := fun w => leastTo yes w m) h]
theorem listsTo_len (yes : Nat → Bool) (m k : Nat) : (listsTo yes m k).length ≤ k := by
  unfold listsTo
  rw [List.length_map]
  exact Nat.le_trans (List.length_filter_le _ _) (by simp)
theorem listsR_yes {yes : Nat → Bool} {m k : Nat} (h : leastR yes k k = true) : listsR yes m (k + 1) = listsR yes m k ++ [setL k m] := by
  unfold listsR
  rw [range_yes (p := fun w => leastR yes w w) h, List.map_append]
  rfl
theorem listsR_no {yes : Nat → Bool} {m k : Nat} (h : leastR yes k k = false) : listsR yes m (k + 1) = listsR yes m k := by
  unfold listsR
  rw [range_no (p := fun w => leastR yes w w) h]
theorem listsR_len (yes : Nat → Bool) (m k : Nat) : (listsR yes m k).length ≤ k := by
  unfold listsR
  rw [List.length_map]
  exact Nat.le_trans (List.length_filter_le _ _) (by simp)

theorem setL_mem {w m : Nat} {x : Int} : x ∈ setL w m ↔ ∃ i, i < m ∧ w.testBit i = true ∧ x = (i : Int) := by
  unfold setL
  rw [List.mem_map]
  constructor
  · rintro ⟨i, hi, rfl⟩
    obtain ⟨h1, h2⟩ := List.mem_filter.1 hi
    exact ⟨i, List.mem_range.1 h1, h2, rfl⟩
  · rintro ⟨i, h1, h2, rfl⟩
    exact ⟨i, List.mem_filter.2 ⟨List.mem_range.2 h1, h2⟩, rfl⟩
theorem bits_high {w m i : Nat} (hw : w < 2 ^ m) (hi : m ≤ i) : w.testBit i = false := Nat.testBit_lt_two_pow (Nat.lt_of_lt_of_le hw (Nat.pow_le_pow_right (by decide) hi))
theorem setL_inj {v w m : Nat} (hv : v < 2 ^ m) (hw : w < 2 ^ m) (h : setL v m = setL w m) : v = w := by
  refine Nat.eq_of_testBit_eq (fun i => ?_)
  by_cases hi : i < m
  · have h1 : (i : Int) ∈ setL v m ↔ (i : Int) ∈ setL w m := by rw [h]
    rw [setL_mem, setL_mem] at h1
    rw [Bool.eq_iff_iff]
    constructor
    · intro h2
      obtain ⟨j, _, h3, h4⟩ := h1.1 ⟨i, hi, h2, rfl⟩
      rw [Int.ofNat.inj h4]
      exact h3
    · intro h2
      obtain ⟨j, _, h3, h4⟩ := h1.2 ⟨i, hi, h2, rfl⟩
      rw [Int.ofNat.inj h4]
      exact h3
  · rw [bits_high hv (by omega), bits_high hw (by omega)]

/-- Sorted, where none stands twice. -/
theorem sort_nub {l : List (List Int)} (h : l.Nodup) : (l.mergeSort fun x y => !ltL lti y x) = nubL l := by
  refine nub_uniq lt_int.list ?_ (fun x => (List.mergeSort_perm l _).mem_iff)
  have hn : (l.mergeSort fun x y => !ltL lti y x).Nodup := (List.mergeSort_perm l _).symm.nodup h
  have hs : (l.mergeSort fun x y => !ltL lti y x).Pairwise fun x y => ltL lti y x = false := by
    refine (List.pairwise_mergeSort (le := fun x y => !ltL lti y x) (fun a b c h1 h2 => ?_) (fun a b => ?_) l).imp (fun h => by simpa using h)
    · rw [Bool.not_eq_true'] at h1 h2 ⊢
      rw [Bool.eq_false_iff]
      intro h3
      by_cases h4 : ltL lti b c = true
      · have := lt_int.list.tr _ _ _ h4 h3
        rw [show ltL (fun x y : Int => decide (x < y)) b a = false from h1] at this
        cases this
      · have := lt_int.list.tot _ _ (Bool.eq_false_iff.2 h4) h2
        subst this
        rw [h1] at h3
        cases h3
    · rw [Bool.or_eq_true, Bool.not_eq_true', Bool.not_eq_true']
      by_cases h : ltL lti b a = true
      · exact .inr (lt_int.list.asym h)
      · exact .inl (Bool.eq_false_iff.2 h)
  refine (hn.and hs).imp (fun {a b} ⟨h1, h2⟩ => ?_)
  show ltL lti a b = true
  by_cases h3 : ltL lti a b = true
  · exact h3
  · exact absurd (lt_int.list.tot a b (Bool.eq_false_iff.2 h3) h2) h1

theorem listsTo_nodup (yes : Nat → Bool) {m k : Nat} (hk : k ≤ 2 ^ m) : (listsTo yes m k).Nodup := by
  unfold listsTo
  show (List.map _ _).Pairwise _
  rw [List.pairwise_map]
  refine List.Pairwise.imp_of_mem (fun {a b} ha hb (h : a < b) e => ?_) (List.Pairwise.filter _ List.pairwise_lt_range)
  have h1 := List.mem_range.1 (List.mem_filter.1 ha).1
  have h2 := List.mem_range.1 (List.mem_filter.1 hb).1
  have := setL_inj (show a < 2 ^ m by omega) (show b < 2 ^ m by omega) e
  omega

/-! ### Least, one way and the other -/

def Mono (yes : Nat → Bool) (m : Nat) : Prop := ∀ a b, a < 2 ^ m → b < 2 ^ m → (∀ i, a.testBit i = true → b.testBit i = true) → yes a = true → yes b = true

theorem leastTo_iff (yes : Nat → Bool) (w : Nat) : ∀ i, leastTo yes w i = true ↔ yes w = true ∧ ∀ j, j < i → w.testBit j = true → yes (drop1 w j) = false
  | 0 => by
    rw [leastTo]
    exact ⟨fun h => ⟨h, fun j hj => absurd hj (Nat.not_lt_zero _)⟩, fun h => h.1⟩
  | i + 1 => by
    have ih := leastTo_iff yes w i
    rw [leastTo]
    split
    · rename_i hb
      rw [Bool.and_eq_true, ih, Bool.not_eq_true']
      constructor
      · rintro ⟨⟨h1, h2⟩, h3⟩
        refine ⟨h1, fun j hj hb2 => ?_⟩
        by_cases e : j = i
        · rw [e]; exact h3
        · exact h2 j (by omega) hb2
      · rintro ⟨h1, h2⟩
        exact ⟨⟨h1, fun j hj => h2 j (by omega)⟩, h2 i (by omega) hb⟩
    · rename_i hb
      rw [ih]
      constructor
      · rintro ⟨h1, h2⟩
        refine ⟨h1, fun j hj hb2 => ?_⟩
        by_cases e : j = i
        · exact absurd (e ▸ hb2) hb
        · exact h2 j (by omega) hb2
      · rintro ⟨h1, h2⟩
        exact ⟨h1, fun j hj => h2 j (by omega)⟩

theorem least_same {yes : Nat → Bool} {m w : Nat} (hm : Mono yes m) (hw : w < 2 ^ m) : leastTo yes w m = leastR yes w w := by
  rw [Bool.eq_iff_iff, leastTo_iff]
  unfold leastR
  rw [Bool.and_eq_true, List.all_eq_true]
  refine ⟨fun ⟨h1, h2⟩ => ⟨h1, fun x hx => ?_⟩, fun ⟨h1, h2⟩ => ⟨h1, fun j hj hb => ?_⟩⟩
  · have hx := List.mem_range.1 hx
    rw [Bool.not_eq_true', Bool.and_eq_false_iff, decide_eq_false_iff_not]
    by_cases hs : x &&& w = x
    · right
      have hs := sub_iff.1 hs
      obtain ⟨i, hi⟩ := Nat.exists_testBit_ne_of_ne (show x ≠ w by omega)
      have hxi : x.testBit i = false := by
        cases h : x.testBit i
        · rfl
        · rw [h, hs i h] at hi; exact absurd rfl hi
      have hwi : w.testBit i = true := by
        cases h : w.testBit i
        · rw [h, hxi] at hi; exact absurd rfl hi
        · rfl
      have him : i < m := by
        refine Classical.byContradiction fun hc => ?_
        rw [bits_high hw (by omega)] at hwi
        cases hwi
      have h3 := h2 i him hwi
      rw [Bool.eq_false_iff]
      intro h4
      have := hm x (drop1 w i) (by omega) (Nat.lt_trans (drop1_lt hwi) hw) (fun j hj => by
        rw [drop1_bit hwi, hs j hj, Bool.true_and]
        refine decide_eq_true (fun e => ?_)
        rw [e, hxi] at hj
        cases hj) h4
      rw [h3] at this
      cases this
    · exact .inl hs
  · have := h2 (drop1 w j) (List.mem_range.2 (drop1_lt hb))
    rw [Bool.not_eq_true', Bool.and_eq_false_iff, decide_eq_false_iff_not] at this
    refine this.resolve_left (fun h => h (sub_iff.2 (fun i hi => ?_)))
    rw [drop1_bit hb, Bool.and_eq_true] at hi
    exact hi.1

theorem lists_ref {yes : Nat → Bool} {m : Nat} (hm : Mono yes m) : nubL (listsR yes m (2 ^ m)) = lists yes m := by
  unfold lists
  rw [sort_nub (listsTo_nodup yes (Nat.le_refl _))]
  congr 1
  unfold listsR listsTo
  congr 1
  refine List.filter_congr (fun w hw => ?_)
  rw [least_same hm (List.mem_range.1 hw)]

theorem leastR_step {yes : Nat → Bool} {w o : Nat} (h : leastR yes w o = true) (h2 : ¬ (o &&& w = o ∧ yes o = true)) : leastR yes w (o + 1) = true := by
  unfold leastR at h ⊢
  rw [Bool.and_eq_true, List.all_eq_true] at h ⊢
  refine ⟨h.1, fun x hx => ?_⟩
  rcases Nat.lt_or_ge x o with h3 | h3
  · exact h.2 x (List.mem_range.2 h3)
  · obtain rfl : x = o := by have := List.mem_range.1 hx; omega
    rw [Bool.not_eq_true', Bool.and_eq_false_iff, decide_eq_false_iff_not]
    rcases Classical.not_and_iff_not_or_not.1 h2 with h4 | h4
    · exact .inl h4
    · exact .inr (Bool.eq_false_iff.2 h4)
theorem leastR_out {yes : Nat → Bool} {w o : Nat} (ho : o < w) (h : o &&& w = o ∧ yes o = true) : leastR yes w w = false := by
  unfold leastR
  rw [Bool.and_eq_false_iff]
  right
  rw [List.all_eq_false]
  exact ⟨o, List.mem_range.2 ho, by rw [decide_eq_true h.1, h.2]; decide⟩

/-! ### Which sets cannot hold together -/

theorem canHold_mono {n : Nat} {ls : List (List Int)} {p q : Nat → Bool} (h : ∀ i, i < ls.length → q i = true → p i = true) (hp : canHold n ls p = true) : canHold n ls q = true := by
  unfold canHold at hp ⊢
  rw [List.any_eq_true] at hp ⊢
  obtain ⟨k, hk, h1⟩ := hp
  refine ⟨k, hk, ?_⟩
  rw [List.all_eq_true] at h1 ⊢
  intro i hi
  have := h1 i hi
  cases hq : q i
  · rfl
  · rw [h i (List.mem_range.1 hi) hq] at this
    exact this

def cannot (n : Nat) (ls : List (List Int)) (w : Nat) : Bool := !canHold n ls (fun i => w.testBit i)
def canDo (n : Nat) (ls : List (List Int)) (w : Nat) : Bool := canHold n ls (fun i => !w.testBit i)
theorem cannot_mono (n : Nat) (ls : List (List Int)) : Mono (cannot n ls) ls.length := by
  intro a b _ _ h ha
  unfold cannot at *
  rw [Bool.not_eq_true'] at *
  rw [Bool.eq_false_iff] at *
  exact fun hb => ha (canHold_mono (fun i _ hi => h i hi) hb)
theorem canDo_mono (n : Nat) (ls : List (List Int)) : Mono (canDo n ls) ls.length := by
  intro a b _ _ h ha
  unfold canDo at *
  refine canHold_mono (fun i _ hi => ?_) ha
  cases hc : a.testBit i
  · rfl
  · rw [h i hc] at hi; cases hi

def coresOf (n : Int) (ls : List (List Int)) : List (List Int) × Int × Int := if (smallW n ls).1 ≠ 0 then ([], smallW n ls) else (lists (cannot n.toNat ls) ls.length, 0, 0)
def mendsOf (n : Int) (ls : List (List Int)) : List (List Int) × Int × Int := if (smallW n ls).1 ≠ 0 then ([], smallW n ls) else (lists (canDo n.toNat ls) ls.length, 0, 0)
theorem smallW_ok {n : Int} {ls : List (List Int)} (h : (smallW n ls).1 = 0) : (tryV n ls).1 = 0 ∧ ls.length ≤ 12 ∧ smallW n ls = (0, 0) := by
  unfold smallW at h ⊢
  by_cases h1 : (tryV n ls).1 = 0
  · rw [if_neg (fun h2 => h2 h1)] at h ⊢
    by_cases h2 : 12 < (ls.length : Int)
    · rw [if_pos h2] at h; cases h
    · rw [if_neg h2]; exact ⟨h1, by omega, rfl⟩
  · rw [if_pos h1] at h; exact absurd h h1

/-- The clauses that hold with an assignment, as a word. -/
def holdW (n : Nat) (ls : List (List Int)) (k : Nat) : Nat := mask (fun i => satB n ls i k) ls.length
theorem holdW_lt (n : Nat) (ls : List (List Int)) (k : Nat) : holdW n ls k < 2 ^ ls.length := mask_lt _ _
theorem hold_sub {n : Nat} {ls : List (List Int)} {k s : Nat} (hs : s < 2 ^ ls.length) : s &&& holdW n ls k = s ↔ ∀ i, i < ls.length → s.testBit i = true → satB n ls i k = true := by
  rw [sub_iff]
  constructor
  · intro h i hi hb
    have := h i hb
    unfold holdW at this
    rw [mask_bit, Bool.and_eq_true] at this
    exact this.2
  · intro h i hb
    have hi : i < ls.length := by
      refine Classical.byContradiction fun hc => ?_
      rw [bits_high hs (by omega)] at hb
      cases hb
    unfold holdW
    rw [mask_bit, decide_eq_true hi, h i hi hb]
    rfl

/-- The truths when k assignments have been tried. -/
def cantTo (n : Nat) (ls : List (List Int)) (k s : Nat) : Bool := (List.range k).all fun x => !decide (s &&& holdW n ls x = s)
def cantL (n : Nat) (ls : List (List Int)) (k : Nat) (p : Nat → Bool) : List Bool := (List.range (2 ^ ls.length)).map fun s => cantTo n ls k s && p s
theorem cantTo_end {n : Nat} {ls : List (List Int)} {s : Nat} (hs : s < 2 ^ ls.length) : cantTo n ls (2 ^ n) s = cannot n ls s := by
  have key : cannot n ls s = true ↔ ∀ k, k < 2 ^ n → ¬ (s &&& holdW n ls k = s) := by
    unfold cannot canHold
    rw [Bool.not_eq_true', List.any_eq_false]
    constructor
    · intro h k hk hc
      refine h k (List.mem_range.2 hk) ?_
      rw [List.all_eq_true]
      intro i hi
      show (!s.testBit i || satB n ls i k) = true
      cases hb : s.testBit i
      · rfl
      · rw [(hold_sub hs).1 hc i (List.mem_range.1 hi) hb]; rfl
    · intro h k hk hc
      refine h k (List.mem_range.1 hk) ((hold_sub hs).2 (fun i hi hb => ?_))
      rw [List.all_eq_true] at hc
      have : (!s.testBit i || satB n ls i k) = true := hc i (List.mem_range.2 hi)
      rw [hb] at this
      simpa using this
  rw [Bool.eq_iff_iff, key]
  unfold cantTo
  rw [List.all_eq_true]
  constructor
  · intro h k hk hc
    have := h k (List.mem_range.2 hk)
    rw [decide_eq_true hc] at this
    cases this
  · intro h k hk
    rw [decide_eq_false (h k (List.mem_range.1 hk))]
    rfl

theorem cantL_len (n : Nat) (ls : List (List Int)) (k : Nat) (p : Nat → Bool) : (cantL n ls k p).length = 2 ^ ls.length := by simp [cantL]
theorem cantL_zero (n : Nat) (ls : List (List Int)) : cantL n ls 0 (fun _ => true) = List.replicate (2 ^ ls.length) true := by
  unfold cantL cantTo
  apply List.ext_getElem (by simp)
  intro i h1 h2
  simp
/-- The submasks of a word, from above. -/
def left_ (w s : Nat) (t : Nat) : Bool := !(decide (t &&& w = t) && decide (s < t))
theorem cantL_begin (n : Nat) (ls : List (List Int)) (k : Nat) : cantL n ls k (fun _ => true) = cantL n ls k (left_ (holdW n ls k) (holdW n ls k)) := by
  unfold cantL
  refine List.map_congr_left (fun t _ => ?_)
  congr 1
  unfold left_
  by_cases h : t &&& holdW n ls k = t
  · have : t ≤ holdW n ls k := by rw [← h]; exact Nat.and_le_right
    rw [show decide (holdW n ls k < t) = false from decide_eq_false (by omega), Bool.and_false]
    rfl
  · rw [decide_eq_false h]; rfl
theorem cantL_set {n : Nat} {ls : List (List Int)} {k s : Nat} (hs : s &&& holdW n ls k = s) (hl : s < 2 ^ ls.length) : (cantL n ls k (left_ (holdW n ls k) s)).set s false = cantL n ls k (fun t => !(decide (t &&& holdW n ls k = t) && decide (s ≤ t))) := by
  unfold cantL
  apply List.ext_getElem (by simp)
  intro i h1 h2
  by_cases e : i = s
  · subst e
    rw [List.getElem_set_self]
    simp only [List.getElem_map, List.getElem_range]
    rw [decide_eq_true hs, decide_eq_true (Nat.le_refl i)]
    simp
  · rw [List.getElem_set_ne (fun h => e h.symm)]
    simp only [List.getElem_map, List.getElem_range]
    unfold left_
    rw [show decide (s < i) = decide (s ≤ i) from decide_eq_decide.2 (by omega)]
theorem cantL_done {n : Nat} {ls : List (List Int)} {k : Nat} : cantL n ls k (fun t => !(decide (t &&& holdW n ls k = t) && decide (0 ≤ t))) = cantL n ls (k + 1) (fun _ => true) := by
  unfold cantL cantTo
  refine List.map_congr_left (fun t _ => ?_)
  rw [List.range_succ, List.all_append]
  simp

theorem and_div2 (a b : Nat) : (a &&& b) / 2 = a / 2 &&& b / 2 := by
  refine Nat.eq_of_testBit_eq (fun i => ?_)
  rw [Nat.testBit_and, ← Nat.testBit_add_one, ← Nat.testBit_add_one, ← Nat.testBit_add_one, Nat.testBit_and]
theorem and_mod2 (a b : Nat) : (a &&& b) % 2 = (a % 2) * (b % 2) := by
  have h := Nat.testBit_and a b 0
  simp only [Nat.testBit_zero] at h
  rcases Nat.mod_two_eq_zero_or_one a with ha | ha <;> rcases Nat.mod_two_eq_zero_or_one b with hb | hb <;> rcases Nat.mod_two_eq_zero_or_one (a &&& b) with hc | hc <;> simp [ha, hb, hc] at h ⊢
theorem sub_div2 {t w : Nat} (h : t &&& w = t) : t / 2 &&& w / 2 = t / 2 := by rw [← and_div2, h]
theorem sub_mod2 {t w : Nat} (h : t &&& w = t) : t % 2 ≤ w % 2 := by
  have := and_mod2 t w
  rw [h] at this
  rcases Nat.mod_two_eq_zero_or_one t with ha | ha <;> rcases Nat.mod_two_eq_zero_or_one w with hb | hb <;> rw [ha, hb] at this ⊢ <;> simp at this ⊢

/-- The next submask: none lies between. -/
theorem sub_next : ∀ (s w t : Nat), 0 < s → s &&& w = s → t &&& w = t → t < s → t ≤ (s - 1) &&& w := by
  intro s
  induction s using Nat.strongRecOn with
  | _ s ih =>
    intro w t h0 hs ht hlt
    have hs2 := sub_div2 hs
    have ht2 := sub_div2 ht
    have hsm := sub_mod2 hs
    have htm := sub_mod2 ht
    have hd := and_div2 (s - 1) w
    have hm := and_mod2 (s - 1) w
    rcases Nat.mod_two_eq_zero_or_one s with h1 | h1
    · have h3 : (s - 1) / 2 = s / 2 - 1 := by omega
      have h4 : (s - 1) % 2 = 1 := by omega
      have := ih (s / 2) (by omega) (w / 2) (t / 2) (by omega) hs2 ht2 (by omega)
      rw [h3] at hd
      rw [h4, Nat.one_mul] at hm
      omega
    · have h3 : (s - 1) / 2 = s / 2 := by omega
      rw [h3, hs2] at hd
      omega
theorem cantL_next {n : Nat} {ls : List (List Int)} {k s : Nat} (hs : s &&& holdW n ls k = s) (h0 : 0 < s) : cantL n ls k (fun t => !(decide (t &&& holdW n ls k = t) && decide (s ≤ t))) = cantL n ls k (left_ (holdW n ls k) ((s - 1) &&& holdW n ls k)) := by
  unfold cantL
  refine List.map_congr_left (fun t _ => ?_)
  congr 1
  unfold left_
  show (!(decide (t &&& holdW n ls k = t) && decide (s ≤ t))) = _
  by_cases h : t &&& holdW n ls k = t
  · rw [decide_eq_true h, Bool.true_and, Bool.true_and]
    congr 1
    refine decide_eq_decide.2 ⟨fun h2 => ?_, fun h2 => ?_⟩
    · have : (s - 1) &&& holdW n ls k ≤ s - 1 := Nat.and_le_left
      omega
    · refine Classical.byContradiction fun h3 => ?_
      have := sub_next s (holdW n ls k) t h0 hs h (by omega)
      omega
  · rw [decide_eq_false h]; rfl
theorem sub_and {s w : Nat} : (s &&& w) &&& w = s &&& w := by rw [Nat.and_assoc, Nat.and_self]

def crowdB (n : Int) (ls : List (List Int)) : Bool := (decide (8 < n) && decide (n ≤ 16)) || (decide (30 < (ls.length : Int)) && decide ((ls.length : Int) ≤ 400))
abbrev three : List (List Int) := [[1], [-1], [2]]
theorem three_try : tryV 2 three = (0, 0) := by simp [tryV, check, checkFrom, wrong, wrongFrom, dup, Int.max_def]
theorem three_small : smallW 2 three = (0, 0) := by rw [smallW, three_try]; simp
theorem three_core : coreOf 2 three = ([0, 1], 0, 0) := by
  rw [coreOf, if_neg (by rw [three_try]; simp), if_neg (by decide)]
  decide
theorem three_mends : mendsOf 2 three = ([[0], [1]], 0, 0) := by
  rw [mendsOf, if_neg (by rw [three_small]; simp)]
  have : listsTo (canDo (2 : Int).toNat three) three.length (2 ^ three.length) = [[0], [1]] := by decide
  rw [lists, this, List.mergeSort_of_pairwise]
  decide

theorem coreOf_bad {n : Int} {ls : List (List Int)} (h : (tryV n ls).1 ≠ 0) : coreOf n ls = ([], tryV n ls) := by rw [coreOf, if_pos h]
/-- Some assignment holds with all the clauses. -/
theorem someOf_all (n : Nat) (ls : List (List Int)) : (0 ≤ someOf n ls) ↔ canHold n ls (at_ (List.replicate ls.length true)) = true := by
  have h := canHold_set n ls (List.replicate ls.length true)
  rw [← h, setB_all, decide_eq_true_iff]
  have : pickL ls ((List.range ls.length).map Int.ofNat) = ls := by
    unfold pickL
    rw [List.map_map]
    apply List.ext_getElem (by simp)
    intro i h1 h2
    simp [List.getD, h2]
  rw [this]
theorem coreOf_some {n : Int} {ls : List (List Int)} (h : (tryV n ls).1 = 0) (h2 : 0 ≤ someOf n.toNat ls) : coreOf n ls = ([], 11, 0) := by
  rw [coreOf, if_neg (fun h3 => h3 h), if_pos ((someOf_all _ _).1 h2)]
theorem coreOf_none {n : Int} {ls : List (List Int)} (h : (tryV n ls).1 = 0) (h2 : ¬ 0 ≤ someOf n.toNat ls) : coreOf n ls = (coreTo n.toNat ls ls.length, 0, 0) := by
  rw [coreOf, if_neg (fun h3 => h3 h), if_neg (fun h3 => h2 ((someOf_all _ _).2 h3))]
end Sp
end Go.Um
