/- Plain facts: lists of lists in order, without repeats. No condition. -/
import Derived.Test.YtpjenbbalengoaaSpJ
namespace Go.Um
namespace Sp

/-! ### A strict order, and lists ordered by it -/

structure Lt {α : Type} (lt : α → α → Bool) : Prop where
  irr : ∀ x, lt x x = false
  tr : ∀ x y z, lt x y = true → lt y z = true → lt x z = true
  tot : ∀ x y, lt x y = false → lt y x = false → x = y

theorem Lt.asym {α : Type} {lt : α → α → Bool} (h : Lt lt) {x y : α} (h1 : lt x y = true) : lt y x = false := by
  rw [Bool.eq_false_iff]
  intro h2
  have := h.tr x y x h1 h2
  rw [h.irr] at this
  cases this

theorem Lt.uniq {α : Type} {lt : α → α → Bool} (h : Lt lt) : ∀ {l m : List α}, l.Pairwise (fun x y => lt x y = true) → m.Pairwise (fun x y => lt x y = true) → (∀ x, x ∈ l ↔ x ∈ m) → l = m
  | [], [], _, _, _ => rfl
  | [], y :: m, _, _, hm => absurd ((hm y).2 (List.mem_cons_self ..)) (by simp)
  | x :: l, [], _, _, hm => absurd ((hm x).1 (List.mem_cons_self ..)) (by simp)
  | x :: l, y :: m, hl, hk, hm => by
    rw [List.pairwise_cons] at hl hk
    have e : x = y := by
      have h1 := (hm x).1 (List.mem_cons_self ..)
      have h2 := (hm y).2 (List.mem_cons_self ..)
      rcases List.mem_cons.1 h1 with h1 | h1
      · exact h1
      · rcases List.mem_cons.1 h2 with h2 | h2
        · exact h2.symm
        · have a := hl.1 y h2
          have b := hk.1 x h1
          rw [h.asym a] at b
          cases b
    subst e
    congr 1
    refine h.uniq hl.2 hk.2 (fun z => ?_)
    constructor
    · intro hz
      rcases List.mem_cons.1 ((hm z).1 (List.mem_cons_of_mem _ hz)) with e | h1
      · subst e
        have := hl.1 z hz
        rw [h.irr] at this
        cases this
      · exact h1
    · intro hz
      rcases List.mem_cons.1 ((hm z).2 (List.mem_cons_of_mem _ hz)) with e | h1
      · subst e
        have := hk.1 z hz
        rw [h.irr] at this
        cases this
      · exact h1

/-- Lists, letter by letter. -/
def ltL {α : Type} (lt : α → α → Bool) : List α → List α → Bool
  | [], [] => false
  | [], _ :: _ => true
  | _ :: _, [] => false
  | x :: xs, y :: ys => lt x y || (!lt y x && ltL lt xs ys)

theorem Lt.list {α : Type} {lt : α → α → Bool} (h : Lt lt) : Lt (ltL lt) where
  irr := by
    intro x
    induction x with
    | nil => rfl
    | cons a as ih => simp [ltL, h.irr, ih]
  tr := by
    intro x
    induction x with
    | nil => intro y z h1 h2; cases y <;> cases z <;> simp_all [ltL]
    | cons a as ih =>
      intro y z h1 h2
      cases y with
      | nil => simp [ltL] at h1
      | cons b bs =>
        cases z with
        | nil => simp [ltL] at h2
        | cons c cs =>
          simp only [ltL, Bool.or_eq_true, Bool.and_eq_true, Bool.not_eq_true'] at h1 h2 ⊢
          rcases h1 with h1 | ⟨h1, h1'⟩
          · rcases h2 with h2 | ⟨h2, h2'⟩
            · exact .inl (h.tr _ _ _ h1 h2)
            · by_cases hbc : lt b c = true
              · exact .inl (h.tr _ _ _ h1 hbc)
              · have e := h.tot b c (Bool.eq_false_iff.2 hbc) h2
                exact .inl (e ▸ h1)
          · by_cases hab : lt a b = true
            · rcases h2 with h2 | ⟨h2, h2'⟩
              · exact .inl (h.tr _ _ _ hab h2)
              · by_cases hbc : lt b c = true
                · exact .inl (h.tr _ _ _ hab hbc)
                · have e := h.tot b c (Bool.eq_false_iff.2 hbc) h2
                  exact .inl (e ▸ hab)
            · have e := h.tot a b (Bool.eq_false_iff.2 hab) h1
              subst e
              rcases h2 with h2 | ⟨h2, h2'⟩
              · exact .inl h2
              · exact .inr ⟨h2, ih _ _ h1' h2'⟩
  tot := by
    intro x
    induction x with
    | nil => intro y h1 h2; cases y <;> simp_all [ltL]
    | cons a as ih =>
      intro y h1 h2
      cases y with
      | nil => simp [ltL] at h2
      | cons b bs =>
        simp only [ltL, Bool.or_eq_false_iff, Bool.and_eq_false_iff, Bool.not_eq_false'] at h1 h2
        have e := h.tot a b h1.1 h2.1
        subst e
        rw [h.irr] at h1 h2
        simp only [Bool.false_eq_true, false_or, true_and] at h1 h2
        rw [ih bs h1 h2]

theorem lt_int : Lt (fun x y : Int => decide (x < y)) where
  irr x := by simp
  tr x y z h1 h2 := by simp only [decide_eq_true_eq] at *; omega
  tot x y h1 h2 := by simp only [decide_eq_false_iff_not] at *; omega
theorem lt_lit : Lt ltO where
  irr x := by rw [Bool.eq_false_iff, ne_eq, ltO_iff]; omega
  tr x y z h1 h2 := by rw [ltO_iff] at *; omega
  tot x y h1 h2 := by rw [Bool.eq_false_iff, ne_eq, ltO_iff] at *; omega

/-- What the library's comparison of lists tells. -/
def cmpL (cf : Int → Int → Int) : List Int → List Int → Int
  | [], [] => 0
  | [], _ :: _ => -1
  | _ :: _, [] => 1
  | x :: xs, y :: ys => if cf x y ≠ 0 then cf x y else cmpL cf xs ys

theorem cmpL_lt {cf : Int → Int → Int} {lt : Int → Int → Bool} (h1 : ∀ x y, cf x y < 0 ↔ lt x y = true) (h2 : ∀ x y, cf x y = 0 ↔ (lt x y = false ∧ lt y x = false)) : ∀ (a b : List Int), cmpL cf a b < 0 ↔ ltL lt a b = true
  | [], [] => by simp [cmpL, ltL]
  | [], _ :: _ => by simp [cmpL, ltL]
  | _ :: _, [] => by simp [cmpL, ltL]
  | x :: xs, y :: ys => by
    have ih := cmpL_lt h1 h2 xs ys
    have a := h1 x y
    have b := h2 x y
    simp only [cmpL, ltL, Bool.or_eq_true, Bool.and_eq_true, Bool.not_eq_true']
    split
    · rename_i hne
      rw [a]
      refine ⟨.inl, fun h => ?_⟩
      rcases h with h | h
      · exact h
      · by_cases h4 : lt x y = true
        · exact h4
        · exact absurd (b.2 ⟨Bool.eq_false_iff.2 h4, h.1⟩) hne
    · rename_i he
      have he := Classical.not_not.1 he
      have hb := b.1 he
      rw [ih, hb.1, hb.2]
      simp

theorem cmpL_at {cf : Int → Int → Int} : ∀ (i : Nat) (a b : List Int), i ≤ a.length → i ≤ b.length → (∀ j, j < i → cf (a.getD j 0) (b.getD j 0) = 0) → cmpL cf a b = cmpL cf (a.drop i) (b.drop i)
  | 0, a, b, _, _, _ => by simp
  | i + 1, [], b, h, _, _ => by simp at h
  | i + 1, a, [], _, h, _ => by simp at h
  | i + 1, x :: xs, y :: ys, h1, h2, h => by
    have h0 := h 0 (by omega)
    simp only [List.getD_cons_zero] at h0
    rw [cmpL, if_neg (fun h3 => h3 h0)]
    exact cmpL_at i xs ys (by simpa using h1) (by simpa using h2) (fun j hj => by simpa using h (j + 1) (by omega))
theorem cmpL_next {cf : Int → Int → Int} {a b : List Int} {i : Nat} (h1 : i < a.length) (h2 : i < b.length) (h : ∀ j, j < i → cf (a.getD j 0) (b.getD j 0) = 0) (hne : cf (a.getD i 0) (b.getD i 0) ≠ 0) : cmpL cf a b = cf (a.getD i 0) (b.getD i 0) := by
  rw [cmpL_at i a b (by omega) (by omega) h, List.drop_eq_getElem_cons h1, List.drop_eq_getElem_cons h2]
  have e1 : a.getD i 0 = a[i] := by simp [List.getD, h1]
  have e2 : b.getD i 0 = b[i] := by simp [List.getD, h2]
  rw [e1, e2] at hne ⊢
  rw [cmpL, if_pos hne]
theorem cmpL_more {cf : Int → Int → Int} {a b : List Int} {i : Nat} (h1 : i < a.length) (h2 : b.length = i) (h : ∀ j, j < i → cf (a.getD j 0) (b.getD j 0) = 0) : cmpL cf a b = 1 := by
  rw [cmpL_at i a b (by omega) (by omega) h, List.drop_eq_getElem_cons h1, List.drop_of_length_le (show b.length ≤ i by omega)]
  rfl
theorem cmpL_end {cf : Int → Int → Int} {a b : List Int} (h2 : a.length ≤ b.length) (h : ∀ j, j < a.length → cf (a.getD j 0) (b.getD j 0) = 0) : cmpL cf a b = if a.length < b.length then -1 else 0 := by
  rw [cmpL_at a.length a b (Nat.le_refl _) h2 h, List.drop_of_length_le (Nat.le_refl _)]
  split
  · rename_i hl
    rw [List.drop_eq_getElem_cons hl]
    rfl
  · rw [List.drop_of_length_le (by omega)]
    rfl

theorem ord_lt0 (x y : Int) : ord x y < 0 ↔ ltO x y = true := by unfold ltO; rw [decide_eq_true_eq]
theorem ord_zero (x y : Int) : ord x y = 0 ↔ (ltO x y = false ∧ ltO y x = false) := by
  constructor
  · intro h
    refine ⟨by unfold ltO; rw [h]; rfl, ?_⟩
    rw [Bool.eq_false_iff, ne_eq, ltO_iff]
    unfold ord cmpI at h
    repeat' split at h
    all_goals omega
  · rintro ⟨h1, h2⟩
    have := lt_lit.tot x y h1 h2
    subst this
    simp [ord, cmpI]
theorem cmpI_lt0 (x y : Int) : cmpI x y < 0 ↔ (fun x y : Int => decide (x < y)) x y = true := by simp only [decide_eq_true_eq]; exact cmpI_abs.1
theorem cmpI_zero (x y : Int) : cmpI x y = 0 ↔ ((fun x y : Int => decide (x < y)) x y = false ∧ (fun x y : Int => decide (x < y)) y x = false) := by
  simp only [decide_eq_false_iff_not]
  rw [cmpI_abs.2]
  omega

/-! ### Repeats struck out -/

def fresh {α : Type} [DecidableEq α] (z : α) (xs : List α) (i : Nat) : Bool := decide (i = 0) || decide (xs.getD i z ≠ xs.getD (i - 1) z)
def cmpTo {α : Type} [DecidableEq α] (z : α) (xs : List α) (i : Nat) : List α := ((List.range i).filter (fresh z xs)).map fun j => xs.getD j z
def compact {α : Type} [DecidableEq α] (z : α) (xs : List α) : List α := cmpTo z xs xs.length

section
variable {α : Type} [DecidableEq α] {z : α} {xs : List α}
theorem cmpTo_yes {i : Nat} (h : fresh z xs i = true) : cmpTo z xs (i + 1) = cmpTo z xs i ++ [xs.getD i z] := by
  unfold cmpTo
  rw [List.range_succ, List.filter_append, List.filter_cons_of_pos h]
  simp
theorem cmpTo_no {i : Nat} (h : fresh z xs i = false) : cmpTo z xs (i + 1) = cmpTo z xs i := by
  unfold cmpTo
  rw [List.range_succ, List.filter_append, List.filter_cons_of_neg (by rw [h]; decide)]
  simp
theorem cmpTo_len (i : Nat) : (cmpTo z xs i).length ≤ i := by
  unfold cmpTo
  rw [List.length_map]
  exact Nat.le_trans (List.length_filter_le _ _) (by simp)
theorem fresh_no {i : Nat} (h0 : 0 < i) (h : xs.getD i z = xs.getD (i - 1) z) : fresh z xs i = false := by
  unfold fresh
  rw [decide_eq_false (by omega), decide_eq_false (fun h2 => h2 h)]
  rfl
theorem fresh_yes {i : Nat} (h : xs.getD i z ≠ xs.getD (i - 1) z) : fresh z xs i = true := by
  unfold fresh
  rw [decide_eq_true h, Bool.or_true]
theorem cmpTo_one (h : 0 < xs.length) : cmpTo z xs 1 = xs.take 1 := by
  have : fresh z xs 0 = true := by simp [fresh]
  rw [cmpTo_yes this, take_getD xs 0 z h]
  simp [cmpTo]
theorem cmpTo_same {i : Nat} (hi : i < xs.length) (h : cmpTo z xs i = xs.take i) (hf : fresh z xs i = true) : cmpTo z xs (i + 1) = xs.take (i + 1) := by
  rw [cmpTo_yes hf, h, take_getD xs i z hi]
theorem compact_same (h : cmpTo z xs xs.length = xs.take xs.length) : compact z xs = xs := by
  rw [compact, h, List.take_length]
theorem compact_small (h : xs.length < 2) : compact z xs = xs := by
  match xs, h with
  | [], _ => rfl
  | [x], _ => simp [compact, cmpTo, fresh, List.range_succ]
omit [DecidableEq α] in
/-- What the row holds while repeats are struck out. -/
theorem set_next {c : List α} {j : Nat} (hc : c.length < xs.length) : (c ++ xs.drop c.length).set c.length (xs.getD j z) = (c ++ [xs.getD j z]) ++ xs.drop (c.length + 1) := by
  have e : xs.drop c.length = xs[c.length] :: xs.drop (c.length + 1) := List.drop_eq_getElem_cons hc
  rw [List.set_append_right _ _ (Nat.le_refl _), Nat.sub_self, e, List.set_cons_zero, List.append_assoc]
  rfl
omit [DecidableEq α] in
theorem row_at {c : List α} {j : Nat} (hc : c.length ≤ j) : (c ++ xs.drop c.length).getD j z = xs.getD j z := by
  simp only [List.getD_eq_getElem?_getD]
  rw [List.getElem?_append_right hc, List.getElem?_drop]
  congr 2
  omega
omit [DecidableEq α] in
theorem row_len {c : List α} (hc : c.length ≤ xs.length) : (c ++ xs.drop c.length).length = xs.length := by simp; omega
end

theorem cleared {α : Type} {c d r : List α} : ((((c ++ d).take c.length) ++ r).drop 0).take (c.length - 0) = c := by simp

theorem compact_mem {α : Type} [DecidableEq α] {z : α} (xs : List α) : ∀ i, i ≤ xs.length → ∀ x, x ∈ cmpTo z xs i ↔ x ∈ xs.take i
  | 0, _, x => by simp [cmpTo]
  | i + 1, hi, x => by
    have ih := compact_mem (z := z) xs i (by omega) x
    rw [take_getD xs i z (by omega), List.mem_append, List.mem_singleton, ← ih]
    cases h : fresh z xs i with
    | true => rw [cmpTo_yes h, List.mem_append, List.mem_singleton]
    | false =>
      rw [cmpTo_no h]
      refine ⟨.inl, fun h2 => h2.elim id (fun e => ?_)⟩
      unfold fresh at h
      rw [Bool.or_eq_false_iff, decide_eq_false_iff_not, decide_eq_false_iff_not, Classical.not_not] at h
      rw [ih, e, h.2]
      have : i - 1 < (xs.take i).length := by simp; omega
      have h3 := getD_mem (xs.take i) (i - 1) z this
      rwa [getD_take xs i (i - 1) z (by omega)] at h3

theorem compact_sorted {α : Type} [DecidableEq α] {z : α} {lt : α → α → Bool} (hl : Lt lt) {xs : List α} (hs : xs.Pairwise fun x y => lt y x = false) : (compact z xs).Pairwise fun x y => lt x y = true := by
  have key : ∀ i, i ≤ xs.length → (cmpTo z xs i).Pairwise (fun x y => lt x y = true) := by
    intro i
    induction i with
    | zero => intro _; simp [cmpTo]
    | succ i ih =>
      intro hi
      have ih := ih (by omega)
      cases h : fresh z xs i with
      | false => rw [cmpTo_no h]; exact ih
      | true =>
        rw [cmpTo_yes h]
        refine List.pairwise_append.2 ⟨ih, by simp, fun x hx y hy => ?_⟩
        rw [List.mem_singleton.1 hy]
        have hx2 := (compact_mem xs i (by omega) x).1 hx
        by_cases h0 : i = 0
        · subst h0; simp at hx2
        · have hne : xs.getD i z ≠ xs.getD (i - 1) z := by
            unfold fresh at h
            rw [decide_eq_false h0, Bool.false_or, decide_eq_true_eq] at h
            exact h
          have hg : ∀ j (hj : j < xs.length), xs.getD j z = xs[j] := fun j hj => by simp [List.getD, hj]
          have hp := List.pairwise_iff_getElem.1 hs
          have h1 : lt (xs.getD (i - 1) z) (xs.getD i z) = true := by
            have h2 := hp (i - 1) i (by omega) (by omega) (by omega)
            rw [hg i (by omega), hg (i - 1) (by omega)] at hne ⊢
            by_cases h3 : lt xs[i - 1] xs[i] = true
            · exact h3
            · exact absurd (hl.tot _ _ h2 (Bool.eq_false_iff.2 h3)) hne
          obtain ⟨j, hj, rfl⟩ := List.getElem_of_mem hx2
          have hji : j < i := by simp at hj; omega
          rw [List.getElem_take]
          by_cases e : j = i - 1
          · subst e
            rw [← hg (i - 1) (by omega)]
            exact h1
          · have h4 := hp j (i - 1) (by omega) (by omega) (by omega)
            rw [← hg (i - 1) (by omega)] at h4
            by_cases h5 : lt xs[j] (xs.getD (i - 1) z) = true
            · exact hl.tr _ _ _ h5 h1
            · rw [hl.tot _ _ (Bool.eq_false_iff.2 h5) h4]
              exact h1
  exact key xs.length (Nat.le_refl _)

/-- Sorted, without repeats. -/
def nub {α : Type} [DecidableEq α] (z : α) (lt : α → α → Bool) (l : List α) : List α := compact z (l.mergeSort fun x y => !lt y x)

theorem nub_mem {α : Type} [DecidableEq α] {z : α} {lt : α → α → Bool} {l : List α} {x : α} : x ∈ nub z lt l ↔ x ∈ l := by
  unfold nub compact
  rw [compact_mem _ _ (Nat.le_refl _), List.take_length]
  exact (List.mergeSort_perm l _).mem_iff
theorem nub_sorted {α : Type} [DecidableEq α] {z : α} {lt : α → α → Bool} (hl : Lt lt) (l : List α) : (nub z lt l).Pairwise fun x y => lt x y = true := by
  refine compact_sorted hl ((List.pairwise_mergeSort (le := fun x y => !lt y x) (fun a b c h1 h2 => ?_) (fun a b => ?_) l).imp (fun h => by simpa using h))
  · rw [Bool.not_eq_true'] at h1 h2 ⊢
    rw [Bool.eq_false_iff]
    intro h3
    by_cases h4 : lt b c = true
    · have := hl.tr _ _ _ h4 h3
      rw [h1] at this
      cases this
    · have := hl.tot _ _ (Bool.eq_false_iff.2 h4) h2
      subst this
      rw [h1] at h3
      cases h3
  · rw [Bool.or_eq_true, Bool.not_eq_true', Bool.not_eq_true']
    by_cases h : lt b a = true
    · exact .inr (hl.asym h)
    · exact .inl (Bool.eq_false_iff.2 h)
theorem nub_uniq {α : Type} [DecidableEq α] {z : α} {lt : α → α → Bool} (hl : Lt lt) {l m : List α} (hs : m.Pairwise fun x y => lt x y = true) (hm : ∀ x, x ∈ m ↔ x ∈ l) : m = nub z lt l :=
  hl.uniq hs (nub_sorted hl l) (fun x => by rw [hm, nub_mem])
/-- A member is put at its place. -/
theorem put_sorted {α : Type} {lt : α → α → Bool} (hl : Lt lt) {m : List α} {x z : α} {k : Nat} (hs : m.Pairwise fun x y => lt x y = true) (hk : k ≤ m.length) (h1 : ∀ y ∈ m.take k, lt y x = true) (h2 : k < m.length → lt (m.getD k z) x = false) (h3 : k < m.length → m.getD k z ≠ x) :
    (m.take k ++ [x] ++ m.drop k).Pairwise fun x y => lt x y = true := by
  have h4 : ∀ y ∈ m.drop k, lt x y = true := by
    intro y hy
    obtain ⟨j, hj, rfl⟩ := List.getElem_of_mem hy
    have hjl : k + j < m.length := by simp at hj; omega
    have hkl : k < m.length := by omega
    have e : m.getD k z = m[k] := by simp [List.getD, hkl]
    have h5 : lt x (m.getD k z) = true := by
      by_cases h6 : lt x (m.getD k z) = true
      · exact h6
      · exact absurd (hl.tot _ _ (h2 hkl) (Bool.eq_false_iff.2 h6)) (h3 hkl)
    rw [List.getElem_drop]
    by_cases h6 : j = 0
    · subst h6
      rw [e] at h5
      exact h5
    · have := List.pairwise_iff_getElem.1 hs k (k + j) hkl hjl (by omega)
      rw [e] at h5
      exact hl.tr _ _ _ h5 this
  have h5 := List.pairwise_append.1 (show (m.take k ++ m.drop k).Pairwise _ by rw [List.take_append_drop]; exact hs)
  refine List.pairwise_append.2 ⟨List.pairwise_append.2 ⟨h5.1, by simp, fun a ha b hb => by rw [List.mem_singleton.1 hb]; exact h1 a ha⟩, h5.2.1, fun a ha b hb => ?_⟩
  rcases List.mem_append.1 ha with ha | ha
  · exact h5.2.2 a ha b hb
  · rw [List.mem_singleton.1 ha]; exact h4 b hb
theorem put_mem {α : Type} {m : List α} {x y : α} {k : Nat} : y ∈ m.take k ++ [x] ++ m.drop k ↔ y = x ∨ y ∈ m := by
  have : y ∈ m ↔ y ∈ m.take k ∨ y ∈ m.drop k := by rw [← List.mem_append, List.take_append_drop]
  rw [List.mem_append, List.mem_append, List.mem_singleton, this]
  constructor
  · rintro ((h | h) | h)
    · exact .inr (.inl h)
    · exact .inl h
    · exact .inr (.inr h)
  · rintro (h | h | h)
    · exact .inl (.inr h)
    · exact .inl (.inl h)
    · exact .inr h

/-- The sorted list, built by putting letters at their places. -/
theorem litSort_put {m : List Int} {x : Int} {k : Nat} (hk : k ≤ m.length) (h1 : ∀ y ∈ (litSort m).take k, ltO x y = false) (h2 : k < m.length → ltO x ((litSort m).getD k 0) = true) : (litSort m).take k ++ [x] ++ (litSort m).drop k = litSort (m ++ [x]) := by
  refine litSort_uniq ?_ ?_
  · refine List.Perm.trans ?_ ((litSort_perm m).append_right [x])
    rw [List.append_assoc]
    refine (List.perm_append_comm_assoc _ _ _).trans ?_
    rw [List.take_append_drop]
    exact List.perm_append_comm
  · have hs := litSort_le m
    have hlen := litSort_len m
    have h4 : ∀ y ∈ (litSort m).drop k, av x < av y ∨ (av x = av y ∧ y ≤ x) := by
      intro y hy
      obtain ⟨j, hj, rfl⟩ := List.getElem_of_mem hy
      have hjl : k + j < (litSort m).length := by simp at hj; omega
      have hkl : k < (litSort m).length := by omega
      have e : (litSort m).getD k 0 = (litSort m)[k] := by simp [List.getD, hkl]
      have h5 := h2 (by omega)
      rw [e, ltO_iff] at h5
      rw [List.getElem_drop]
      by_cases h6 : j = 0
      · subst h6; simp only [Nat.add_zero]; omega
      · have := List.pairwise_iff_getElem.1 hs k (k + j) hkl hjl (by omega)
        omega
    have h5 := List.pairwise_append.1 (show ((litSort m).take k ++ (litSort m).drop k).Pairwise _ by rw [List.take_append_drop]; exact hs)
    have h6 : ∀ y ∈ (litSort m).take k, av y < av x ∨ (av y = av x ∧ x ≤ y) := fun y hy => by
      have := h1 y hy
      rw [Bool.eq_false_iff, ne_eq, ltO_iff] at this
      omega
    refine List.pairwise_append.2 ⟨List.pairwise_append.2 ⟨h5.1, by simp, fun a ha b hb => by rw [List.mem_singleton.1 hb]; exact h6 a ha⟩, h5.2.1, fun a ha b hb => ?_⟩
    rcases List.mem_append.1 ha with ha | ha
    · exact h5.2.2 a ha b hb
    · rw [List.mem_singleton.1 ha]; exact h4 b hb

def nrm (ls : List (List Int)) : List (List Int) := nub [] (ltL ltO) (ls.map litSort)

theorem nrm_step {ls : List (List Int)} {i : Nat} (hi : i < ls.length) : ∀ x, x ∈ nrm (ls.take (i + 1)) ↔ x = litSort (ls.getD i []) ∨ x ∈ nrm (ls.take i) := by
  intro x
  unfold nrm
  rw [nub_mem, nub_mem, take_getD ls i [] hi, List.map_append, List.mem_append]
  simp only [List.map_cons, List.map_nil, List.mem_singleton]
  exact Or.comm
theorem nrm_sorted (ls : List (List Int)) : (nrm ls).Pairwise fun x y => ltL ltO x y = true := nub_sorted lt_lit.list _
theorem nrm_put {ls : List (List Int)} {i k : Nat} (hi : i < ls.length) (hk : k ≤ (nrm (ls.take i)).length) (h1 : ∀ y ∈ (nrm (ls.take i)).take k, ltL ltO y (litSort (ls.getD i [])) = true) (h2 : k < (nrm (ls.take i)).length → ltL ltO ((nrm (ls.take i)).getD k []) (litSort (ls.getD i [])) = false)
    (h3 : k < (nrm (ls.take i)).length → (nrm (ls.take i)).getD k [] ≠ litSort (ls.getD i [])) : nrm (ls.take (i + 1)) = (nrm (ls.take i)).take k ++ [litSort (ls.getD i [])] ++ (nrm (ls.take i)).drop k :=
  lt_lit.list.uniq (nrm_sorted _) (put_sorted lt_lit.list (nrm_sorted _) hk h1 h2 h3) (fun x => by rw [nrm_step hi, put_mem])
theorem nrm_skip {ls : List (List Int)} {i k : Nat} (hi : i < ls.length) (hk : k < (nrm (ls.take i)).length) (h : (nrm (ls.take i)).getD k [] = litSort (ls.getD i [])) : nrm (ls.take (i + 1)) = nrm (ls.take i) :=
  lt_lit.list.uniq (nrm_sorted _) (nrm_sorted _) (fun x => by
    rw [nrm_step hi]
    refine ⟨fun h2 => h2.elim (fun e => ?_) id, .inr⟩
    rw [e, ← h]
    exact getD_mem _ k [] hk)
theorem nrm_len (ls : List (List Int)) : (nrm ls).length ≤ ls.length := by
  unfold nrm nub compact
  refine Nat.le_trans (cmpTo_len _) ?_
  rw [List.length_mergeSort, List.length_map]
  exact Nat.le_refl _
theorem nrm_nil : nrm [] = [] := by simp [nrm, nub, compact, cmpTo]
theorem nrm_elem {ls : List (List Int)} {x : List Int} (h : x ∈ nrm ls) : ∃ l ∈ ls, x = litSort l := by
  unfold nrm at h
  rw [nub_mem, List.mem_map] at h
  obtain ⟨l, hl, rfl⟩ := h
  exact ⟨l, hl, rfl⟩
theorem lists_eq {α : Type} {z : α} {a b : List α} (hl : a.length = b.length) (h : ∀ j, j < a.length → a.getD j z = b.getD j z) : a = b := by
  apply List.ext_getElem hl
  intro i h1 h2
  have := h i h1
  simpa [List.getD, h1, h2] using this
theorem put_form {α : Type} {m : List α} {x : α} {k : Nat} : (([] ++ (m.drop 0).take (k - 0)) ++ [x]) ++ (m.drop k).take (m.length - k) = m.take k ++ [x] ++ m.drop k := by
  rw [List.take_of_length_le (l := m.drop k) (by simp)]
  simp
theorem before_cmp (a b : List Int) : ltL ltO a b = decide (cmpL ord a b < 0) := by
  rw [Bool.eq_iff_iff, decide_eq_true_eq]
  exact (cmpL_lt ord_lt0 ord_zero a b).symm
theorem ord_same {a b : List Int} {i : Nat} (h : ∀ j, j < i → a.getD j 0 = b.getD j 0) : ∀ j, j < i → ord (a.getD j 0) (b.getD j 0) = 0 := fun j hj => by
  rw [h j hj, ord_zero]
  exact ⟨lt_lit.irr _, lt_lit.irr _⟩
theorem ord_ne {x y : Int} (h : x ≠ y) : ord x y ≠ 0 := fun h2 => h (lt_lit.tot _ _ ((ord_zero x y).1 h2).1 ((ord_zero x y).1 h2).2)
end Sp
end Go.Um
