/- Plain laws: clauses that count. No program in sight. No condition. -/
import Derived.Test.YtpjenbbalengoaaSp3
namespace Go.Um
namespace Sp

def av (x : Int) : Int := max x (-x)

theorem wrong_iff {n : Int} {l : List Int} : (wrong n l).1 = 0 ↔ (∀ x ∈ l, x ≠ 0 ∧ -n ≤ x ∧ x ≤ n) ∧ l.Pairwise fun x y => av x ≠ av y := by
  have key : ∀ i, (wrongFrom n l i).1 = 0 ↔ ∀ j, i ≤ j → j < l.length → (l.getD j 0 ≠ 0 ∧ -n ≤ l.getD j 0 ∧ l.getD j 0 ≤ n) ∧ dup l j = false := by
    intro i
    induction hm : l.length - i generalizing i with
    | zero =>
      rw [wrongFrom, if_neg (by omega)]
      exact ⟨fun _ j h1 h2 => by omega, fun _ => rfl⟩
    | succ m ih =>
      rw [wrongFrom, if_pos (by omega)]
      by_cases h1 : l.getD i 0 = 0 ∨ l.getD i 0 < -n ∨ n < l.getD i 0
      · rw [if_pos h1]
        refine ⟨fun h => by simp at h, fun h => ?_⟩
        have := (h i (Nat.le_refl _) (by omega)).1
        omega
      · rw [if_neg h1]
        by_cases h2 : dup l i = true
        · rw [if_pos h2]
          refine ⟨fun h => by simp at h, fun h => ?_⟩
          have := (h i (Nat.le_refl _) (by omega)).2
          rw [h2] at this; cases this
        · rw [if_neg h2, ih (i + 1) (by omega)]
          refine ⟨fun h j h3 h4 => ?_, fun h j h3 h4 => h j (by omega) h4⟩
          by_cases e : j = i
          · subst e
            exact ⟨by omega, by simpa using h2⟩
          · exact h j (by omega) h4
  rw [wrong, key 0]
  have gd : ∀ j (h : j < l.length), l.getD j 0 = l[j] := fun j h => by simp [List.getD, List.getElem?_eq_getElem h]
  constructor
  · intro h
    refine ⟨fun x hx => ?_, ?_⟩
    · obtain ⟨j, hj, rfl⟩ := List.getElem_of_mem hx
      rw [← gd j hj]
      exact (h j (Nat.zero_le _) hj).1
    · rw [List.pairwise_iff_getElem]
      intro i j hi hj hij
      have hd := (h j (Nat.zero_le _) hj).2
      unfold dup at hd
      rw [List.any_eq_false] at hd
      have := hd l[i] (by rw [List.mem_take_iff_getElem]; exact ⟨i, by omega, rfl⟩)
      rw [gd j hj] at this
      simpa [av] using this
  · rintro ⟨h1, h2⟩ j _ hj
    refine ⟨by rw [gd j hj]; exact h1 _ (List.getElem_mem hj), ?_⟩
    unfold dup
    rw [List.any_eq_false]
    intro y hy
    rw [List.mem_take_iff_getElem] at hy
    obtain ⟨i, hi, rfl⟩ := hy
    rw [List.pairwise_iff_getElem] at h2
    have := h2 i j (by omega) hj (by omega)
    rw [gd j hj]
    simpa [av] using this

theorem sub_sublist (l : List Int) (s : Nat) : (sub l s).Sublist l := by
  have key : ∀ i, i ≤ l.length → (subTo l s i).Sublist (l.take i) := by
    intro i
    induction i with
    | zero => intro _; simp [subTo]
    | succ i ih =>
      intro h
      rw [take_getD l i 0 (by omega)]
      by_cases hb : (s : Int) / 2 ^ i % 2 = 1
      · rw [subTo_yes hb]; exact (ih (by omega)).append (List.Sublist.refl _)
      · rw [subTo_no hb]; exact (ih (by omega)).trans (List.sublist_append_left _ _)
  have := key l.length (Nat.le_refl _)
  rwa [List.take_length] at this

theorem wrong_sub {n : Int} {l m : List Int} (h : (wrong n l).1 = 0) (hm : m.Sublist l) : (wrong n m).1 = 0 := by
  rw [wrong_iff] at h ⊢
  exact ⟨fun x hx => h.1 x (hm.subset hx), h.2.sublist hm⟩

theorem wrong_negs {n : Int} {l : List Int} (h : (wrong n l).1 = 0) : (wrong n (negs l)).1 = 0 := by
  rw [wrong_iff] at h ⊢
  refine ⟨fun x hx => ?_, ?_⟩
  · simp only [negs, List.mem_map] at hx
    obtain ⟨y, hy, rfl⟩ := hx
    have := h.1 y hy
    omega
  · rw [negs, List.pairwise_map]
    refine h.2.imp ?_
    intro a b hab e
    apply hab
    unfold av at e ⊢
    omega

theorem some_mem {l : List Int} {k : Int} {c : List Int} (h : c ∈ some l k) : c.Sublist l ∧ (c.length : Int) = k := by
  simp only [some, someTo, List.mem_filter, List.mem_map, decide_eq_true_eq] at h
  obtain ⟨⟨s, _, rfl⟩, h2⟩ := h
  exact ⟨sub_sublist l s, h2⟩

theorem check_of {n : Int} {ls : List (List Int)} (h1 : 0 ≤ n ∧ n ≤ 120) (h2 : ls.length ≤ 400) (h3 : ∀ l ∈ ls, l.length ≤ 24 ∧ (wrong n l).1 = 0) : check n ls = (0, 0) := by
  rw [check, if_neg (by omega), if_neg (by omega)]
  have key : ∀ i, checkFrom n ls i = (0, 0) := by
    intro i
    induction hm : ls.length - i generalizing i with
    | zero => rw [checkFrom, if_neg (by omega)]
    | succ m ih =>
      have := h3 _ (getD_mem ls i [] (by omega))
      rw [checkFrom, if_pos (by omega), if_neg (by omega), if_neg (by rw [this.2]; simp)]
      exact ih (i + 1) (by omega)
  exact key 0

theorem some_check {n : Int} {l : List Int} {k : Int} (h1 : 0 ≤ n ∧ n ≤ 16) (h2 : l.length ≤ 8) (h : (wrong n l).1 = 0) : check n (some l k) = (0, 0) := by
  refine check_of (by omega) ?_ (fun c hc => ?_)
  · have h3 := someTo_len l k (2 ^ l.length)
    have h4 : 2 ^ l.length ≤ 256 := Nat.pow_le_pow_right (n := 2) (by decide) h2
    unfold some
    omega
  · obtain ⟨h3, _⟩ := some_mem hc
    exact ⟨by have := h3.length_le; omega, wrong_sub h h3⟩

theorem lit_neg {a : List Bool} {x : Int} (hx : x ≠ 0) : lit a (-x) = !lit a x := by
  unfold lit
  by_cases h : 0 < x
  · rw [if_pos h, if_neg (by omega), Int.neg_neg]
  · rw [if_neg h, if_pos (by omega), Bool.not_not]

/-- Every choice of places is that of a number. -/
theorem bit_exists (q : Nat → Bool) : ∀ n : Nat, ∃ s, s < 2 ^ n ∧ ∀ i, i < n → bit s i = q i := by
  intro n
  induction n with
  | zero => exact ⟨0, by simp, fun i hi => by omega⟩
  | succ n ih =>
    obtain ⟨s, hs, h⟩ := ih
    have hbit : ∀ t i : Nat, bit t i = t.testBit i := by
      intro t i
      rw [bit, Nat.testBit_eq_decide_div_mod_eq]
      have e : ((t : Int) / 2 ^ i % 2) = ((t / 2 ^ i % 2 : Nat) : Int) := by simp
      rw [e]
      congr 1
      apply propext
      omega
    cases hq : q n with
    | false =>
      refine ⟨s, by rw [Nat.pow_succ]; omega, fun i hi => ?_⟩
      by_cases e : i = n
      · subst e; rw [hbit, Nat.testBit_lt_two_pow hs, hq]
      · exact h i (by omega)
    | true =>
      refine ⟨2 ^ n + s, by rw [Nat.pow_succ]; omega, fun i hi => ?_⟩
      by_cases e : i = n
      · subst e; rw [hbit, Nat.testBit_two_pow_add_eq, Nat.testBit_lt_two_pow hs, hq]; rfl
      · rw [hbit, Nat.testBit_two_pow_add_gt (by omega), ← hbit]; exact h i (by omega)

theorem sub_exists {l m : List Int} (h : m.Sublist l) : ∃ s, s < 2 ^ l.length ∧ sub l s = m := by
  have key : ∃ q : Nat → Bool, ((List.range l.length).filter q).map (fun j => l.getD j 0) = m := by
    induction h with
    | slnil => exact ⟨fun _ => false, rfl⟩
    | cons a h ih =>
      rename_i m l
      obtain ⟨q, hq⟩ := ih
      refine ⟨fun i => match i with | 0 => false | i + 1 => q i, ?_⟩
      rw [List.length_cons, List.range_succ_eq_map, List.filter_cons_of_neg (by simp), List.filter_map, List.map_map]
      exact hq
    | cons_cons a h ih =>
      rename_i m l
      obtain ⟨q, hq⟩ := ih
      refine ⟨fun i => match i with | 0 => true | i + 1 => q i, ?_⟩
      rw [List.length_cons, List.range_succ_eq_map, List.filter_cons_of_pos (by simp), List.filter_map, List.map_cons, List.map_map]
      congr 1
  obtain ⟨q, hq⟩ := key
  obtain ⟨s, hs, hb⟩ := bit_exists q l.length
  refine ⟨s, hs, ?_⟩
  rw [sub, subTo, ← hq]
  congr 1
  apply List.filter_congr
  intro i hi
  exact hb i (by simpa using hi)

theorem some_of {l m : List Int} (h : m.Sublist l) : m ∈ some l m.length := by
  obtain ⟨s, hs, e⟩ := sub_exists h
  simp only [some, someTo, List.mem_filter, List.mem_map, decide_eq_true_eq, List.mem_range]
  exact ⟨⟨s, hs, e⟩, trivial⟩

/-- All clauses of so many of the literals hold just if fewer do not. -/
theorem all_some {a : List Bool} {l : List Int} {k : Nat} : all a (some l k) = decide ((l.filter fun x => !lit a x).length < k) := by
  rw [Bool.eq_iff_iff, decide_eq_true_eq, all, List.all_eq_true]
  constructor
  · intro h
    apply Nat.lt_of_not_le
    intro hk
    have hs : ((l.filter fun x => !lit a x).take k).Sublist l := (List.take_sublist _ _).trans List.filter_sublist
    have hlen : ((l.filter fun x => !lit a x).take k).length = k := by rw [List.length_take]; omega
    have hm := some_of hs
    rw [hlen] at hm
    have := h _ hm
    rw [sat, List.any_eq_true] at this
    obtain ⟨x, hx, hl⟩ := this
    have := (List.mem_filter.1 (List.mem_of_mem_take hx)).2
    rw [hl] at this
    cases this
  · intro h c hc
    obtain ⟨h1, h2⟩ := some_mem hc
    cases hs : sat a c with
    | true => rfl
    | false =>
      exfalso
      rw [sat, List.any_eq_false] at hs
      have h3 : c.filter (fun x => !lit a x) = c := List.filter_eq_self.2 (fun x hx => by simpa using hs x hx)
      have h4 := (h1.filter (fun x => !lit a x)).length_le
      rw [h3] at h4
      omega

theorem all_most {a : List Bool} {l : List Int} {k : Int} (hk : 0 ≤ k) (h0 : ∀ x ∈ l, x ≠ 0) : all a (some (negs l) (k + 1)) = decide ((holding a l : Int) ≤ k) := by
  obtain ⟨j, rfl⟩ := Int.eq_ofNat_of_zero_le hk
  have e : ((j : Int) + 1) = ((j + 1 : Nat) : Int) := by omega
  rw [e, all_some]
  have e2 : ((negs l).filter fun x => !lit a x).length = holding a l := by
    rw [negs, List.filter_map, List.length_map, holding]
    congr 1
    apply List.filter_congr
    intro x hx
    simp only [Function.comp]
    rw [lit_neg (h0 x hx), Bool.not_not]
  rw [e2]
  congr 1
  apply propext
  omega

theorem fh (a : List Bool) (l : List Int) : (l.filter fun x => !lit a x).length + holding a l = l.length := by
  rw [holding]
  induction l with
  | nil => rfl
  | cons x l ih =>
    cases hx : lit a x <;> simp [hx] <;> omega

theorem any_congr' {α : Type} {p q : α → Bool} : ∀ {l : List α}, (∀ x ∈ l, p x = q x) → l.any p = l.any q
  | [], _ => rfl
  | x :: l, h => by rw [List.any_cons, List.any_cons, h x (List.mem_cons_self ..), any_congr' (fun y hy => h y (List.mem_cons_of_mem _ hy))]

theorem all_least {a : List Bool} {l : List Int} {k : Int} (hk : 0 < k) (hkl : k ≤ l.length) : all a (some l (l.length - k + 1)) = decide (k ≤ (holding a l : Int)) := by
  obtain ⟨j, rfl⟩ := Int.eq_ofNat_of_zero_le (Int.le_of_lt hk)
  have e : ((l.length : Int) - (j : Int) + 1) = ((l.length - j + 1 : Nat) : Int) := by omega
  rw [e, all_some]
  have e2 := fh a l
  congr 1
  apply propext
  omega

/-! ### Full trails -/

theorem literals_mem {a : List Bool} {x : Int} (h : x ≠ 0 ∧ -(a.length : Int) ≤ x ∧ x ≤ a.length) : x ∈ literals a ↔ lit a x = true := by
  simp only [literals, List.mem_map, List.mem_range]
  constructor
  · rintro ⟨i, hi, rfl⟩
    unfold litAt lit
    by_cases hg : a.getD i false = true
    · rw [if_pos hg, if_pos (by omega)]
      have : ((i : Int) + 1 - 1).toNat = i := by omega
      rw [this]; exact hg
    · rw [if_neg hg, if_neg (by omega)]
      have : (-(-(i : Int) - 1) - 1).toNat = i := by omega
      rw [this]; simpa using hg
  · intro hl
    unfold lit at hl
    by_cases hx : 0 < x
    · rw [if_pos hx] at hl
      refine ⟨(x - 1).toNat, by omega, ?_⟩
      rw [litAt, if_pos hl]; omega
    · rw [if_neg hx] at hl
      refine ⟨(-x - 1).toNat, by omega, ?_⟩
      rw [litAt, if_neg (by simpa using hl)]; omega

theorem literals_full {a : List Bool} {x : Int} (h : x ≠ 0 ∧ -(a.length : Int) ≤ x ∧ x ≤ a.length) : x ∈ literals a ∨ -x ∈ literals a := by
  rw [literals_mem h, literals_mem (x := -x) (by omega), lit_neg h.1]
  cases lit a x <;> simp

theorem on_full {ls : List (List Int)} {t w : List Int} (h : ∀ l ∈ ls, ∀ x ∈ l, x ∈ t ∨ -x ∈ t) : on ls t w = (t, w, conf ls t) := by
  have hm : ∀ l ∈ ls, must l t = 0 := by
    intro l hl
    have : l.find? (free t) = none := by
      rw [List.find?_eq_none]
      intro x hx
      have := h l hl x hx
      simp only [free, Bool.and_eq_true, Bool.not_eq_true', decide_eq_false_iff_not]
      rintro ⟨h1, h2⟩
      rcases this with h3 | h3
      · exact h1 h3
      · exact h2 h3
    rw [must, this]
  have hu : unit ls t = -1 := idx_none (fun l hl => by rw [hm l hl]; rfl)
  rw [on]
  by_cases hc : 0 ≤ conf ls t
  · rw [if_pos hc]
  · rw [if_neg hc, dif_pos (by rw [hu]; decide)]
    have := idxFrom_range (fun l => falseIn l t 0) ls 0
    rw [idxFrom_zero] at this
    unfold conf at hc ⊢
    rw [this.resolve_right (by omega)]

theorem conf_full {a : List Bool} {ls : List (List Int)} (h : ∀ l ∈ ls, Good a.length l) : decide (conf ls (literals a) < 0) = all a ls := by
  have h1 := idx_any (fun l => falseIn l (literals a) 0) ls
  have h2 : (ls.any fun l => falseIn l (literals a) 0) = !all a ls := by
    rw [all, List.all_eq_not_any_not, Bool.not_not]
    refine any_congr' (fun l hl => ?_)
    rw [Bool.eq_iff_iff]
    simp only [falseIn, List.all_eq_true, Bool.or_eq_true, decide_eq_true_eq, Bool.not_eq_true', sat, List.any_eq_false, Bool.not_eq_true]
    refine forall₂_congr fun x hx => ?_
    have hg := h l hl x hx
    rw [literals_mem (x := -x) (by omega), lit_neg hg.1, Bool.not_eq_true']
    exact ⟨fun h => h.resolve_left hg.1, .inr⟩
  rw [h2] at h1
  unfold conf
  have h3 : decide (idx (fun l => falseIn l (literals a) 0) ls < 0) = !decide (0 ≤ idx (fun l => falseIn l (literals a) 0) ls) := by
    rw [Bool.eq_iff_iff]
    simp only [decide_eq_true_eq, Bool.not_eq_true', decide_eq_false_iff_not]
    omega
  rw [h3, h1, Bool.not_not]

theorem flat_bound {b : Nat} : ∀ {ls : List (List Int)}, (∀ l ∈ ls, l.length ≤ b) → ls.flatten.length ≤ ls.length * b
  | [], _ => by simp
  | l :: ls, h => by
    have h1 := h l (List.mem_cons_self ..)
    have h2 := flat_bound (ls := ls) (fun m hm => h m (List.mem_cons_of_mem _ hm))
    simp only [List.flatten_cons, List.length_append, List.length_cons, Nat.add_mul, Nat.one_mul]
    omega

theorem check_use {m : Nat} {ls : List (List Int)} (h : (check (m : Int) ls).1 = 0) : (∀ l ∈ ls, Good m l) ∧ ls.flatten.length ≤ 100000000 := by
  obtain ⟨h1, h2, h3⟩ := check_ok h
  refine ⟨fun l hl x hx => wrong_ok (h3 l hl).2 x hx, ?_⟩
  have := flat_bound (b := 24) (fun l hl => (h3 l hl).1)
  omega

theorem listed_zero {n : Int} {l : List Int} (h : (listed n l).1 = 0) : listed n l = (0, 0) := by
  unfold listed at h ⊢
  split at h
  · rename_i h1; exact absurd h h1
  · rename_i h1; rw [if_neg h1]

theorem card_zero {n : Int} {l : List Int} (h : (cardWrong n l).1 = 0) : cardWrong n l = (0, 0) := by
  unfold cardWrong at h ⊢
  split at h
  · simp at h
  · rename_i h1
    rw [if_neg h1]
    split at h
    · simp at h
    · rename_i h2
      rw [if_neg h2]
      exact listed_zero h

theorem card_wrong {n : Int} {l : List Int} (h : (cardWrong n l).1 = 0) : (wrong n l).1 = 0 := by
  unfold cardWrong at h
  split at h
  · simp at h
  · split at h
    · simp at h
    · unfold listed at h
      split at h
      · rename_i h1; exact absurd h h1
      · rename_i h1; simpa using h1

theorem least_ok {n : Int} {l : List Int} {k : Int} (h : (cardWrong n l).1 = 0) (hk : 0 ≤ k ∧ k ≤ 8) : ∃ cl, least n l k = (n, cl, 0, 0) ∧ check n cl = (0, 0) ∧ ∀ a, all a cl = decide (k ≤ (holding a l : Int)) := by
  have hco := card_ok h
  have ecnt : counted n l k = (0, 0) := by rw [counted, if_neg (fun h' => h' h), if_neg (by omega)]
  have hle : ∀ a, holding a l ≤ l.length := fun a => List.length_filter_le _ _
  by_cases h0 : k = 0
  · subst h0
    refine ⟨[], by rw [least, ecnt, if_neg (by decide), if_pos rfl], check_of (by omega) (by simp) (by simp), fun a => ?_⟩
    rw [decide_eq_true (by omega)]
    rfl
  · by_cases h1 : (l.length : Int) < k
    · refine ⟨[[]], by rw [least, ecnt, if_neg (by decide), if_neg h0, if_pos h1], check_of (by omega) (by simp) (fun c hc => ?_), fun a => ?_⟩
      · simp only [List.mem_singleton] at hc
        subst hc
        exact ⟨by simp, by rw [wrong_iff]; simp⟩
      · have := hle a
        rw [decide_eq_false (by omega)]
        rfl
    · exact ⟨some l (l.length - k + 1), by rw [least, ecnt, if_neg (by decide), if_neg h0, if_neg h1], some_check (by omega) (by omega) (card_wrong h), fun a => all_least (by omega) (by omega)⟩

theorem pow_pos' (m : Nat) : (1 : Int) ≤ 2 ^ ((m : Int)).toNat := by
  have : (0 : Int) < 2 ^ ((m : Int)).toNat := Int.pow_pos (by decide)
  omega

theorem counted_one : counted 2 [1, 2] 1 = (0, 0) := by
  have h : wrong 2 [1, 2] = (0, 0) := by simp [wrong, wrongFrom, dup, Int.max_def]
  simp [counted, cardWrong, listed, h]
theorem most_one : most 2 [1, 2] 1 = (2, [[-1, -2]], 0, 0) := by
  rw [most, counted_one]
  decide
theorem least_one : least 2 [1, 2] 1 = (2, [[1, 2]], 0, 0) := by
  rw [least, counted_one]
  decide
end Sp
end Go.Um
