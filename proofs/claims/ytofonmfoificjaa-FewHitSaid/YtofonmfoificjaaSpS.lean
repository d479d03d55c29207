/- Plain facts: the least sets of one kind are the least that meet all the least sets of the other. No condition. -/
import Derived.Test.YtofonmfoificjaaSpR
namespace Go.Um
namespace Sp

def hitsB (a : List (List Int)) (s : List Int) : Bool := a.all fun l => l.any fun x => decide (x ∈ s)
def Dual (yes no : Nat → Bool) (m : Nat) : Prop := ∀ w, w < 2 ^ m → yes w = !no (2 ^ m - 1 - w)

theorem not_bit {m w i : Nat} (hw : w < 2 ^ m) (hi : i < m) : (2 ^ m - 1 - w).testBit i = !w.testBit i := by
  rw [show 2 ^ m - 1 - w = 2 ^ m - (w + 1) by omega, Nat.testBit_two_pow_sub_succ hw, decide_eq_true hi, Bool.true_and]
theorem Dual.flip {yes no : Nat → Bool} {m : Nat} (h : Dual yes no m) : Dual no yes m := by
  intro w hw
  have := h (2 ^ m - 1 - w) (by omega)
  rw [show 2 ^ m - 1 - (2 ^ m - 1 - w) = w by omega] at this
  rw [this, Bool.not_not]
theorem dual_few (n : Nat) (ls : List (List Int)) : Dual (canDo n ls) (cannot n ls) ls.length := fun _ hw => canDo_not hw

theorem least_below {yes : Nat → Bool} {m : Nat} : ∀ u, u < 2 ^ m → yes u = true → ∃ v, v < 2 ^ m ∧ leastTo yes v m = true ∧ ∀ i, v.testBit i = true → u.testBit i = true := by
  intro u
  induction u using Nat.strongRecOn with
  | _ u ih =>
    intro hu hy
    by_cases h : leastTo yes u m = true
    · exact ⟨u, hu, h, fun _ h2 => h2⟩
    · have h2 : ¬ ∀ j, j < m → u.testBit j = true → yes (drop1 u j) = false := fun h3 => h ((leastTo_iff yes u m).2 ⟨hy, h3⟩)
      obtain ⟨j, h3⟩ := Classical.not_forall.1 h2
      obtain ⟨hj, h4⟩ := Classical.not_imp.1 h3
      obtain ⟨hb, h5⟩ := Classical.not_imp.1 h4
      have h6 : yes (drop1 u j) = true := by
        cases h7 : yes (drop1 u j)
        · exact absurd h7 h5
        · rfl
      obtain ⟨v, g1, g2, g3⟩ := ih (drop1 u j) (drop1_lt hb) (Nat.lt_trans (drop1_lt hb) hu) h6
      refine ⟨v, g1, g2, fun i hi => ?_⟩
      have := g3 i hi
      rw [drop1_bit hb, Bool.and_eq_true] at this
      exact this.1

theorem lists_mem {yes : Nat → Bool} {m : Nat} {x : List Int} : x ∈ lists yes m ↔ ∃ v, v < 2 ^ m ∧ leastTo yes v m = true ∧ x = setL v m := by
  unfold lists listsTo
  rw [(List.mergeSort_perm _ _).mem_iff, List.mem_map]
  constructor
  · rintro ⟨v, h1, rfl⟩
    obtain ⟨h2, h3⟩ := List.mem_filter.1 h1
    exact ⟨v, List.mem_range.1 h2, h3, rfl⟩
  · rintro ⟨v, h1, h2, rfl⟩
    exact ⟨v, List.mem_filter.2 ⟨List.mem_range.2 h1, h2⟩, rfl⟩

theorem hitsB_iff {no : Nat → Bool} {m : Nat} {s : List Int} : hitsB (lists no m) s = true ↔ ∀ v, v < 2 ^ m → leastTo no v m = true → ∃ i, i < m ∧ v.testBit i = true ∧ (i : Int) ∈ s := by
  unfold hitsB
  rw [List.all_eq_true]
  constructor
  · intro h v hv hl
    have := h _ (lists_mem.2 ⟨v, hv, hl, rfl⟩)
    rw [List.any_eq_true] at this
    obtain ⟨x, h1, h2⟩ := this
    obtain ⟨i, h3, h4, rfl⟩ := setL_mem.1 h1
    exact ⟨i, h3, h4, of_decide_eq_true h2⟩
  · intro h x hx
    obtain ⟨v, hv, hl, rfl⟩ := lists_mem.1 hx
    obtain ⟨i, h1, h2, h3⟩ := h v hv hl
    rw [List.any_eq_true]
    exact ⟨i, setL_mem.2 ⟨i, h1, h2, rfl⟩, decide_eq_true h3⟩

theorem drop_mem {l : List Int} (hn : l.Nodup) {t : Nat} (ht : t < l.length) (x : Int) : x ∈ l.take t ++ l.drop (t + 1) ↔ x ∈ l ∧ x ≠ l.getD t 0 := by
  have e : l = l.take t ++ l.getD t 0 :: l.drop (t + 1) := by
    conv => lhs; rw [← List.take_append_drop t l, List.drop_eq_getElem_cons ht]
    simp [List.getD, ht]
  have hn2 := hn
  rw [e, List.nodup_append] at hn2
  obtain ⟨h1, h2, h3⟩ := hn2
  rw [List.nodup_cons] at h2
  constructor
  · intro h
    rw [List.mem_append] at h
    refine ⟨?_, ?_⟩
    · rw [e, List.mem_append, List.mem_cons]
      exact h.elim .inl (fun h => .inr (.inr h))
    · rintro rfl
      exact h.elim (fun h4 => h3 _ h4 _ (List.mem_cons_self ..) rfl) h2.1
  · rintro ⟨h4, h5⟩
    rw [e, List.mem_append, List.mem_cons] at h4
    rw [List.mem_append]
    rcases h4 with h4 | h4 | h4
    · exact .inl h4
    · exact absurd h4 h5
    · exact .inr h4
theorem setL_nodup (w m : Nat) : (setL w m).Nodup := by
  unfold setL
  show (List.map _ _).Pairwise _
  rw [List.pairwise_map]
  refine (List.Pairwise.filter _ List.pairwise_lt_range).imp (fun {a b} (h : a < b) e => ?_)
  have := Int.ofNat.inj e
  omega

/-- The sets of b are the least that meet all of a. -/
def HitOne (a b : List (List Int)) : Prop := ∀ s ∈ b, s.length ≤ 12 ∧ hitsB a s = true ∧ ∀ t, t < s.length → hitsB a (s.take t ++ s.drop (t + 1)) = false

theorem hit_one {yes no : Nat → Bool} {m : Nat} (hd : Dual yes no m) (hmn : Mono no m) (hm : m ≤ 12) : HitOne (lists no m) (lists yes m) := by
  intro s hs
  obtain ⟨w, hw, hl, rfl⟩ := lists_mem.1 hs
  obtain ⟨hy, hmin⟩ := (leastTo_iff yes w m).1 hl
  refine ⟨Nat.le_trans (setL_len w m) hm, hitsB_iff.2 (fun v hv hlv => ?_), fun t ht => ?_⟩
  · refine Classical.byContradiction fun hc => ?_
    have h1 : no (2 ^ m - 1 - w) = true := by
      refine hmn v _ hv (by omega) (fun i hi => ?_) ((leastTo_iff no v m).1 hlv).1
      have him : i < m := Classical.byContradiction fun h => by rw [bits_high hv (by omega)] at hi; cases hi
      rw [not_bit hw him]
      cases hwi : w.testBit i
      · rfl
      · exact absurd ⟨i, him, hi, setL_mem.2 ⟨i, him, hwi, rfl⟩⟩ hc
    rw [hd w hw, h1] at hy
    cases hy
  · obtain ⟨j, hj, hb, e⟩ := setL_mem.1 (getD_mem (setL w m) t 0 ht)
    have h1 := hmin j hj hb
    have hdl : drop1 w j < 2 ^ m := Nat.lt_trans (drop1_lt hb) hw
    rw [hd _ hdl, Bool.not_eq_false'] at h1
    obtain ⟨v, hv, hlv, hsub⟩ := least_below (m := m) (2 ^ m - 1 - drop1 w j) (by omega) h1
    rw [Bool.eq_false_iff]
    intro hh
    obtain ⟨i, him, hvi, hmem⟩ := hitsB_iff.1 hh v hv hlv
    obtain ⟨h2, h3⟩ := (drop_mem (setL_nodup w m) ht _).1 hmem
    obtain ⟨i', hi', hwi, e2⟩ := setL_mem.1 h2
    have e3 : i = i' := Int.ofNat.inj e2
    subst e3
    have h4 := hsub i hvi
    rw [not_bit hdl him, drop1_bit hb, hwi, Bool.true_and, Bool.not_eq_true', decide_eq_false_iff_not] at h4
    refine h3 ?_
    rw [e, Classical.not_not.1 h4]

theorem canDo_all (n : Nat) (ls : List (List Int)) : canDo n ls (2 ^ ls.length - 1) = true := by
  unfold canDo canHold
  rw [List.any_eq_true]
  refine ⟨0, List.mem_range.2 (Nat.two_pow_pos n), ?_⟩
  rw [List.all_eq_true]
  intro i hi
  show (!(!(2 ^ ls.length - 1).testBit i) || satB n ls i 0) = true
  rw [Nat.testBit_two_pow_sub_one, decide_eq_true (List.mem_range.1 hi)]
  rfl
theorem mends_some (n : Nat) (ls : List (List Int)) : (lists (canDo n ls) ls.length).length ≠ 0 := by
  obtain ⟨v, h1, h2, _⟩ := least_below (m := ls.length) _ (by have := Nat.two_pow_pos ls.length; omega) (canDo_all n ls)
  intro h
  have := lists_mem.2 ⟨v, h1, h2, rfl⟩
  rw [List.eq_nil_of_length_eq_zero h] at this
  cases this
theorem hit_few {n : Nat} {ls : List (List Int)} (hl : ls.length ≤ 12) : HitOne (lists (cannot n ls) ls.length) (lists (canDo n ls) ls.length) ∧ HitOne (lists (canDo n ls) ls.length) (lists (cannot n ls) ls.length) :=
  ⟨hit_one (dual_few n ls) (cannot_mono n ls) hl, hit_one (dual_few n ls).flip (canDo_mono n ls) hl⟩
theorem lists_12 {yes : Nat → Bool} {m : Nat} (hm : m ≤ 12) : (lists yes m).length ≤ 4096 := by
  unfold lists
  rw [List.length_mergeSort]
  exact Nat.le_trans (listsTo_len ..) (Nat.pow_le_pow_right (n := 2) (j := 12) (by decide) hm)
end Sp
end Go.Um
