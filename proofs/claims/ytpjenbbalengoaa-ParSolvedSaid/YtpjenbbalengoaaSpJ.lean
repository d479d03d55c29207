/- Plain facts: literals in order, the search by flips. No condition. -/
import Derived.Test.YtpjenbbalengoaaSpH
import Derived.Test.YtpjenbbalengoaaSp4
namespace Go.Um
namespace Sp

/-! ### Order -/

def cmpI (x y : Int) : Int := if x < y then -1 else if y < x then 1 else 0
def ord (a b : Int) : Int := if cmpI (av a) (av b) ≠ 0 then cmpI (av a) (av b) else cmpI b a
def ltO (a b : Int) : Bool := decide (ord a b < 0)
def litSort (l : List Int) : List Int := l.mergeSort fun x y => !ltO y x

theorem ltO_iff {a b : Int} : ltO a b = true ↔ av a < av b ∨ (av a = av b ∧ b < a) := by
  unfold ltO ord cmpI
  rw [decide_eq_true_eq]
  repeat' split
  all_goals omega

theorem cmpI_abs {x y : Int} : (cmpI x y < 0 ↔ x < y) ∧ (cmpI x y = 0 ↔ x = y) := by
  unfold cmpI
  repeat' split
  all_goals omega

theorem ltO_not {a b : Int} : (!ltO b a) = true ↔ av a < av b ∨ (av a = av b ∧ b ≤ a) := by
  rw [Bool.not_eq_true', Bool.eq_false_iff, ne_eq, ltO_iff]
  omega

theorem litSort_perm (l : List Int) : (litSort l).Perm l := List.mergeSort_perm l _
theorem litSort_mem {l : List Int} {x : Int} : x ∈ litSort l ↔ x ∈ l := (litSort_perm l).mem_iff
theorem litSort_len (l : List Int) : (litSort l).length = l.length := List.length_mergeSort _
theorem litSort_le (l : List Int) : (litSort l).Pairwise (fun a b => av a < av b ∨ (av a = av b ∧ b ≤ a)) := by
  refine (List.pairwise_mergeSort (le := fun x y => !ltO y x) ?_ ?_ l).imp (fun h => ltO_not.1 h)
  · intro a b c h1 h2
    rw [ltO_not] at h1 h2 ⊢
    omega
  · intro a b
    rw [Bool.or_eq_true, ltO_not, ltO_not]
    omega

theorem litSort_inc {l : List Int} (h : l.Pairwise fun x y => av x ≠ av y) : ((litSort l).map av).Pairwise (fun x y => x < y) := by
  have h2 : (litSort l).Pairwise fun x y => av x ≠ av y := (litSort_perm l).symm.pairwise h (fun h => fun e => h e.symm)
  rw [List.pairwise_map]
  exact (h2.and (litSort_le l)).imp (fun ⟨h1, h2⟩ => by omega)

/-- The sorted list of a list is the one with these members in order. -/
theorem litSort_uniq {l m : List Int} (hp : m.Perm l) (hs : m.Pairwise (fun a b => av a < av b ∨ (av a = av b ∧ b ≤ a))) : m = litSort l := by
  refine List.Perm.eq_of_pairwise (le := fun a b => av a < av b ∨ (av a = av b ∧ b ≤ a)) ?_ hs (litSort_le l) (hp.trans (litSort_perm l).symm)
  intro a b _ _ h1 h2
  omega

theorem litSort_one (x : Int) : litSort [x] = [x] := List.mergeSort_singleton x

def orD (l : List Int) : Int := (l.find? fun y => decide (y ≠ 0)).getD 0
theorem orD_none {l : List Int} (h : ∀ y ∈ l, y = 0) : orD l = 0 := by
  unfold orD
  rw [List.find?_eq_none.2 (fun y hy => by simp [h y hy])]
  rfl
theorem orD_at {l : List Int} {i : Nat} (hi : i < l.length) (h : ∀ y ∈ l.take i, y = 0) (hne : l.getD i 0 ≠ 0) : orD l = l.getD i 0 := by
  have e : l = l.take i ++ l.getD i 0 :: l.drop (i + 1) := by
    conv => lhs; rw [← List.take_append_drop (i + 1) l, take_getD l i 0 hi]
    simp
  unfold orD
  conv => lhs; rw [e]
  rw [List.find?_append, List.find?_eq_none.2 (fun y hy => by simp [h y hy]), Option.none_or, List.find?_cons_of_pos (by exact decide_eq_true hne)]
  rfl
theorem orD_two (x y : Int) : orD [x, y] = if x ≠ 0 then x else y := by
  by_cases h : x = 0 <;> by_cases h2 : y = 0 <;> simp [orD, h, h2]

/-! ### The variable to flip -/

def pstep (br : Int → Nat) (b v : Int) : Int := if b = 0 ∨ br v < br b then v else b
def open_ (c : List Int) (last v : Int) : Bool := !(decide (v = last) && decide (1 < c.length))
def choice (ls : List (List Int)) (a : List Bool) (c : List Int) (last : Int) : Int := (((litSort c).map av).filter (open_ c last)).foldl (pstep (breaks ls a)) 0
def upto (n : Nat) : List Int := (List.range n).map fun (i : Nat) => (i : Int) + 1
def inC (c : List Int) (v : Int) : Bool := decide (v ∈ c) || decide (-v ∈ c)

theorem upto_inc (n : Nat) : (upto n).Pairwise (fun x y => x < y) := by
  unfold upto
  rw [List.pairwise_map]
  exact List.pairwise_lt_range.imp (fun h => by omega)
theorem upto_mem {n : Nat} {v : Int} : v ∈ upto n ↔ 1 ≤ v ∧ v ≤ n := by
  unfold upto
  rw [List.mem_map]
  constructor
  · rintro ⟨i, hi, rfl⟩
    have := List.mem_range.1 hi
    omega
  · intro h
    exact ⟨(v - 1).toNat, List.mem_range.2 (by omega), by omega⟩
theorem upto_len (n : Nat) : (upto n).length = n := by simp [upto]
theorem upto_getD {n i : Nat} (h : i < n) : (upto n).getD i 0 = (i : Int) + 1 := by
  simp [upto, List.getD, h]

theorem vars_eq {n : Nat} {c : List Int} (hG : Good n c) (hd : c.Pairwise fun x y => av x ≠ av y) : (litSort c).map av = (upto n).filter (inC c) := by
  refine inc_ext (litSort_inc hd) (List.Pairwise.filter _ (upto_inc n)) (fun v => ?_)
  rw [List.mem_map, List.mem_filter, upto_mem, inC, Bool.or_eq_true, decide_eq_true_eq, decide_eq_true_eq]
  constructor
  · rintro ⟨x, hx, rfl⟩
    rw [litSort_mem] at hx
    have := hG x hx
    unfold av
    refine ⟨by omega, ?_⟩
    by_cases h : 0 < x
    · rw [Int.max_eq_left (by omega)]; exact .inl hx
    · rw [Int.max_eq_right (by omega), Int.neg_neg]; exact .inr hx
  · rintro ⟨h1, h2 | h2⟩
    · exact ⟨v, litSort_mem.2 h2, by unfold av; omega⟩
    · exact ⟨-v, litSort_mem.2 h2, by unfold av; omega⟩

theorem choice_ref {n : Nat} {ls : List (List Int)} {a : List Bool} {c : List Int} {last : Int} (hG : Good n c) (hd : c.Pairwise fun x y => av x ≠ av y) : choice ls a c last = ((upto n).filter (fun v => open_ c last v && inC c v)).foldl (pstep (breaks ls a)) 0 := by
  unfold choice
  rw [vars_eq hG hd, List.filter_filter]

theorem pick_yes {p : Int → Bool} {g : Int → Int → Int} {l : List Int} {i : Nat} (hi : i < l.length) (h : p (l.getD i 0) = true) : ((l.take (i + 1)).filter p).foldl g 0 = g (((l.take i).filter p).foldl g 0) (l.getD i 0) := by
  rw [take_getD l i 0 hi, List.filter_append, List.filter_cons_of_pos h, List.filter_nil, List.foldl_append, List.foldl_cons, List.foldl_nil]
theorem pick_no {p : Int → Bool} {g : Int → Int → Int} {l : List Int} {i : Nat} (hi : i < l.length) (h : p (l.getD i 0) = false) : ((l.take (i + 1)).filter p).foldl g 0 = ((l.take i).filter p).foldl g 0 := by
  rw [take_getD l i 0 hi, List.filter_append, List.filter_cons_of_neg (by rw [h]; decide), List.filter_nil, List.append_nil]

theorem fold_mem {g : Int → Nat} : ∀ (l : List Int) (b : Int), l.foldl (pstep g) b = b ∨ l.foldl (pstep g) b ∈ l
  | [], b => .inl rfl
  | v :: l, b => by
    rw [List.foldl_cons]
    rcases fold_mem (g := g) l (pstep g b v) with h | h
    · rw [h]
      unfold pstep
      split
      · exact .inr (List.mem_cons_self ..)
      · exact .inl rfl
    · exact .inr (List.mem_cons_of_mem _ h)
theorem fold_some {g : Int → Nat} : ∀ (l : List Int) (b : Int), (∀ v ∈ l, v ≠ 0) → (l ≠ [] ∨ b ≠ 0) → l.foldl (pstep g) b ≠ 0
  | [], b, _, h => h.resolve_left (fun h => h rfl)
  | v :: l, b, h0, _ => by
    rw [List.foldl_cons]
    refine fold_some l _ (fun x hx => h0 x (List.mem_cons_of_mem _ hx)) (.inr ?_)
    unfold pstep
    split
    · exact h0 v (List.mem_cons_self ..)
    · rename_i h
      exact fun e => h (.inl e)

theorem choice_ok {n : Nat} {ls : List (List Int)} {a : List Bool} {c : List Int} {last : Int} (hG : Good n c) (hd : c.Pairwise fun x y => av x ≠ av y) (hc : c.length ≠ 0) : 1 ≤ choice ls a c last ∧ choice ls a c last ≤ n := by
  have hr : ∀ v ∈ ((litSort c).map av).filter (open_ c last), 1 ≤ v ∧ v ≤ n := by
    intro v hv
    have hv := (List.mem_filter.1 hv).1
    rw [vars_eq hG hd] at hv
    exact upto_mem.1 (List.mem_filter.1 hv).1
  have hne : ((litSort c).map av).filter (open_ c last) ≠ [] := by
    intro he
    have hall : ∀ x ∈ c, av x = last ∧ 1 < c.length := by
      intro x hx
      have := List.filter_eq_nil_iff.1 he (av x) (List.mem_map.2 ⟨x, litSort_mem.2 hx, rfl⟩)
      simpa [open_] using this
    match c, hc, hd, hall with
    | [x], _, _, hall => have := (hall x (List.mem_cons_self ..)).2; simp at this
    | x :: y :: c, _, hd, hall =>
      have h1 := (hall x (by simp)).1
      have h2 := (hall y (by simp)).1
      rw [List.pairwise_cons] at hd
      exact hd.1 y (by simp) (h1.trans h2.symm)
  have h1 := fold_some (g := breaks ls a) _ 0 (fun v hv => by have := hr v hv; omega) (.inl hne)
  rcases fold_mem (g := breaks ls a) (((litSort c).map av).filter (open_ c last)) 0 with h2 | h2
  · exact absurd h2 h1
  · exact hr _ h2

/-! ### The search -/

def unsat (ls : List (List Int)) (a : List Bool) : Int := idx (fun l => !sat a l) ls
def wnext (ls : List (List Int)) (a : List Bool) (last : Int) : Option Int :=
  if unsat ls a < 0 ∨ (ls.getD (unsat ls a).toNat []).length = 0 then none else Option.some (choice ls a (ls.getD (unsat ls a).toNat []) last)
def walkR (ls : List (List Int)) : Nat → List Bool → Int → Nat → List Bool × Nat
  | 0, a, _, d => (a, d)
  | f + 1, a, last, d => match wnext ls a last with
    | none => (a, d)
    | .some b => walkR ls f (flip a b) b (d + 1)

theorem idx_bnd {α : Type} (p : α → Bool) (l : List α) : -1 ≤ idx p l ∧ idx p l < l.length ∧ (∀ z, 0 ≤ idx p l → p (l.getD (idx p l).toNat z) = true) ∧ (idx p l < 0 → ∀ y ∈ l, p y = false) := by
  unfold idx
  split
  · rename_i k hk
    obtain ⟨h1, h2, _⟩ := List.findIdx?_eq_some_iff_getElem.1 hk
    refine ⟨by omega, by omega, fun z _ => ?_, fun h => absurd h (by omega)⟩
    simpa [List.getD, h1] using h2
  · rename_i hk
    refine ⟨by omega, by omega, fun z h => absurd h (by omega), fun _ => by simpa using hk⟩

theorem walkR_stop {ls : List (List Int)} {f : Nat} {a : List Bool} {last : Int} {d : Nat} (h : unsat ls a < 0 ∨ (ls.getD (unsat ls a).toNat []).length = 0) : walkR ls f a last d = (a, d) := by
  cases f with
  | zero => rfl
  | succ f => rw [walkR, wnext, if_pos h]
theorem walkR_go {ls : List (List Int)} {f : Nat} {a : List Bool} {last : Int} {d : Nat} (hf : 0 < f) (h : ¬ (unsat ls a < 0 ∨ (ls.getD (unsat ls a).toNat []).length = 0)) :
    walkR ls f a last d = walkR ls (f - 1) (flip a (choice ls a (ls.getD (unsat ls a).toNat []) last)) (choice ls a (ls.getD (unsat ls a).toNat []) last) (d + 1) := by
  obtain ⟨f, rfl⟩ : ∃ k, f = k + 1 := ⟨f - 1, by omega⟩
  rw [walkR, wnext, if_neg h]
  rfl

def walkOf (n : Int) (ls : List (List Int)) (a : List Bool) (flips : Int) : List Bool × Int × Int × Int :=
  if (withA n ls a.length).1 ≠ 0 then ([], 0, withA n ls a.length) else if flips < 0 ∨ 2000 < flips then ([], 0, 3, -1) else
  ((walkR ls flips.toNat a 0 0).1, (walkR ls flips.toNat a 0 0).2, 0, 0)

/-! ### What is so of the search -/

def unlike (a b : List Bool) : Nat := ((List.range a.length).filter fun i => decide (a.getD i false ≠ b.getD i false)).length

theorem flip_getD {a : List Bool} {v : Int} {i : Nat} (hv : 1 ≤ v ∧ v ≤ a.length) : (flip a v).getD i false = if i = (v - 1).toNat then !a.getD i false else a.getD i false := by
  unfold flip
  by_cases h : i = (v - 1).toNat
  · subst h
    rw [if_pos rfl]
    simp only [List.getD_eq_getElem?_getD, List.getElem?_set, if_true]
    rw [if_pos (by omega)]
    rfl
  · rw [if_neg h]
    simp only [List.getD_eq_getElem?_getD]
    rw [List.getElem?_set_ne (fun e => h e.symm)]

theorem count_one {n j : Nat} (hj : j < n) {p q : Nat → Bool} (h : ∀ i, i ≠ j → p i = q i) (hne : p j = !q j) : ((List.range n).filter p).length + 1 = ((List.range n).filter q).length ∨ ((List.range n).filter p).length = ((List.range n).filter q).length + 1 := by
  have hs : List.range n = List.range j ++ j :: (List.range (n - j - 1)).map (fun i => j + 1 + i) := by
    have h1 : n = j + (1 + (n - j - 1)) := by omega
    conv => lhs; rw [h1, List.range_add]
    congr 1
    rw [List.range_add]
    simp [Function.comp_def, Nat.add_assoc]
  have e1 : (List.range j).filter p = (List.range j).filter q := List.filter_congr (fun i hi => h i (by have := List.mem_range.1 hi; omega))
  have e2 : ((List.range (n - j - 1)).map (fun i => j + 1 + i)).filter p = ((List.range (n - j - 1)).map (fun i => j + 1 + i)).filter q := List.filter_congr (fun i hi => h i (by
    obtain ⟨k, _, rfl⟩ := List.mem_map.1 hi
    omega))
  rw [hs]
  simp only [List.filter_append, List.filter_cons, e1, e2, List.length_append, hne]
  cases q j <;> simp <;> omega

theorem unlike_flip {a b : List Bool} {v : Int} (hl : b.length = a.length) (hv : 1 ≤ v ∧ v ≤ b.length) : unlike a (flip b v) + 1 = unlike a b ∨ unlike a (flip b v) = unlike a b + 1 := by
  unfold unlike
  refine count_one (j := (v - 1).toNat) (by omega) (fun i hi => ?_) ?_
  · rw [flip_getD hv, if_neg hi]
  · rw [flip_getD hv, if_pos rfl]
    cases a.getD (v - 1).toNat false <;> cases b.getD (v - 1).toNat false <;> rfl

theorem unlike_self (a : List Bool) : unlike a a = 0 := by simp [unlike]

theorem walk_law {n : Nat} {ls : List (List Int)} {a0 : List Bool} (hG : ∀ l ∈ ls, Good n l ∧ l.Pairwise fun x y => av x ≠ av y) (hn : a0.length = n) : ∀ (f : Nat) (a : List Bool) (last : Int) (d : Nat), a.length = n → unlike a0 a ≤ d → (d - unlike a0 a) % 2 = 0 →
    (walkR ls f a last d).1.length = n ∧ d ≤ (walkR ls f a last d).2 ∧ (walkR ls f a last d).2 ≤ d + f ∧ unlike a0 (walkR ls f a last d).1 ≤ (walkR ls f a last d).2 ∧ ((walkR ls f a last d).2 - unlike a0 (walkR ls f a last d).1) % 2 = 0 ∧
    ((walkR ls f a last d).2 = d + f ∨ unsat ls (walkR ls f a last d).1 < 0 ∨ (ls.getD (unsat ls (walkR ls f a last d).1).toNat []).length = 0)
  | 0, a, last, d, h1, h2, h3 => ⟨h1, Nat.le_refl _, Nat.le_refl _, h2, h3, .inl rfl⟩
  | f + 1, a, last, d, h1, h2, h3 => by
    by_cases h : unsat ls a < 0 ∨ (ls.getD (unsat ls a).toNat []).length = 0
    · rw [walkR_stop h]
      exact ⟨h1, Nat.le_refl _, Nat.le_add_right _ _, h2, h3, .inr h⟩
    · rw [walkR_go (Nat.succ_pos f) h, Nat.succ_sub_one]
      have hb := idx_bnd (fun l => !sat a l) ls
      have hm := hG _ (getD_mem ls (unsat ls a).toNat [] (by unfold unsat at h ⊢; omega))
      have hc := choice_ok (ls := ls) (a := a) (last := last) hm.1 hm.2 (fun e => h (.inr e))
      obtain ⟨v, hv⟩ : ∃ v, choice ls a (ls.getD (unsat ls a).toNat []) last = v := ⟨_, rfl⟩
      rw [hv] at hc ⊢
      have hu := unlike_flip (a := a0) (b := a) (v := v) (by omega) (by omega)
      obtain ⟨i1, i2, i3, i4, i5, i6⟩ := walk_law hG hn f (flip a v) v (d + 1) (by rw [flip_length]; exact h1) (by omega) (by omega)
      exact ⟨i1, by omega, by omega, i4, i5, i6.elim (fun h => .inl (by omega)) .inr⟩

theorem walk_against : (walkR [[1, 2], [-1], [-2]] 3 [true, true] 0 0).2 = 3 := by
  have h1 : wnext [[1, 2], [-1], [-2]] [true, true] 0 = Option.some 1 := by
    have hu : unsat [[1, 2], [-1], [-2]] [true, true] = 1 := by decide
    rw [wnext, hu, if_neg (by decide)]
    show Option.some (((((litSort [-1]).map av).filter (open_ [-1] 0))).foldl (pstep (breaks [[1, 2], [-1], [-2]] [true, true])) 0) = _
    rw [litSort_one]
    decide
  have h2 : wnext [[1, 2], [-1], [-2]] (flip [true, true] 1) 1 = Option.some 2 := by
    have hu : unsat [[1, 2], [-1], [-2]] (flip [true, true] 1) = 2 := by decide
    rw [wnext, hu, if_neg (by decide)]
    show Option.some (((((litSort [-2]).map av).filter (open_ [-2] 1))).foldl (pstep (breaks [[1, 2], [-1], [-2]] _)) 0) = _
    rw [litSort_one]
    decide
  have h3 : ∃ v, wnext [[1, 2], [-1], [-2]] (flip (flip [true, true] 1) 2) 2 = Option.some v := by
    have hu : unsat [[1, 2], [-1], [-2]] (flip (flip [true, true] 1) 2) = 0 := by decide
    rw [wnext, hu, if_neg (by decide)]
    exact ⟨_, rfl⟩
  obtain ⟨v, h3⟩ := h3
  rw [walkR, h1]
  show (walkR _ 2 (flip [true, true] 1) 1 1).2 = 3
  rw [walkR, h2]
  show (walkR _ 1 (flip (flip [true, true] 1) 2) 2 2).2 = 3
  rw [walkR, h3]
  rfl

theorem wrong_use {n : Int} {ls : List (List Int)} {m : Nat} (h : (withA n ls m).1 = 0) : ∀ l ∈ ls, Good m l ∧ l.Pairwise fun x y => av x ≠ av y := by
  unfold withA at h
  split at h
  · cases h
  · rename_i h1
    obtain ⟨h2, h3, h4⟩ := check_ok h
    intro l hl
    have h5 := wrong_iff.1 (h4 l hl).2
    have hm : (m : Int) = n := Classical.byContradiction fun hc => h1 ⟨h, hc⟩
    exact ⟨fun x hx => by have := h5.1 x hx; omega, h5.2⟩

/-! ### The two loops that choose -/

def chTo (ls : List (List Int)) (a : List Bool) (c : List Int) (last : Int) (i : Nat) : Int := ((((litSort c).map av).take i).filter (open_ c last)).foldl (pstep (breaks ls a)) 0
def rcTo (ls : List (List Int)) (a : List Bool) (n : Nat) (c : List Int) (last : Int) (i : Nat) : Int := (((upto n).take i).filter (fun v => open_ c last v && inC c v)).foldl (pstep (breaks ls a)) 0

theorem ch_at {c : List Int} {i : Nat} (hi : i < (litSort c).length) : ((litSort c).map av).getD i 0 = av ((litSort c).getD i 0) := by
  simp [List.getD, hi]
theorem ch_end (ls : List (List Int)) (a : List Bool) (c : List Int) (last : Int) : chTo ls a c last (litSort c).length = choice ls a c last := by
  rw [chTo, choice, List.take_of_length_le (by simp)]
theorem ch_skip {ls : List (List Int)} {a : List Bool} {c : List Int} {last : Int} {i : Nat} (hi : i < (litSort c).length) (h : av ((litSort c).getD i 0) = last ∧ 1 < c.length) : chTo ls a c last (i + 1) = chTo ls a c last i := by
  refine pick_no (by simpa using hi) ?_
  rw [ch_at hi, open_, decide_eq_true h.1, decide_eq_true h.2]
  rfl
theorem ch_step {ls : List (List Int)} {a : List Bool} {c : List Int} {last : Int} {i : Nat} (hi : i < (litSort c).length) (h : ¬ (av ((litSort c).getD i 0) = last ∧ 1 < c.length)) : chTo ls a c last (i + 1) = pstep (breaks ls a) (chTo ls a c last i) (av ((litSort c).getD i 0)) := by
  refine (pick_yes (by simpa using hi) ?_).trans (by rw [ch_at hi]; rfl)
  rw [ch_at hi, open_, Bool.not_eq_true', Bool.and_eq_false_iff, decide_eq_false_iff_not, decide_eq_false_iff_not]
  exact Classical.not_and_iff_not_or_not.1 h
theorem rc_end {ls : List (List Int)} {a : List Bool} {n : Nat} {c : List Int} {last : Int} (hG : Good n c) (hd : c.Pairwise fun x y => av x ≠ av y) : rcTo ls a n c last n = choice ls a c last := by
  rw [choice_ref hG hd, rcTo, List.take_of_length_le (by rw [upto_len]; exact Nat.le_refl _)]
theorem rc_skip {ls : List (List Int)} {a : List Bool} {n : Nat} {c : List Int} {last : Int} {i : Nat} (hi : i < n) (h : (((i : Int) + 1 ∉ c) ∧ (-((i : Int) + 1) ∉ c)) ∨ ((i : Int) + 1 = last ∧ 1 < c.length)) : rcTo ls a n c last (i + 1) = rcTo ls a n c last i := by
  refine pick_no (by rw [upto_len]; exact hi) ?_
  rw [upto_getD hi]
  rcases h with h | h
  · rw [inC, decide_eq_false h.1, decide_eq_false h.2]; simp
  · rw [open_, decide_eq_true h.1, decide_eq_true h.2]; rfl
theorem rc_step {ls : List (List Int)} {a : List Bool} {n : Nat} {c : List Int} {last : Int} {i : Nat} (hi : i < n) (h : ¬ ((((i : Int) + 1 ∉ c) ∧ (-((i : Int) + 1) ∉ c)) ∨ ((i : Int) + 1 = last ∧ 1 < c.length))) : rcTo ls a n c last (i + 1) = pstep (breaks ls a) (rcTo ls a n c last i) ((i : Int) + 1) := by
  refine (pick_yes (by rw [upto_len]; exact hi) ?_).trans (by rw [upto_getD hi]; rfl)
  rw [upto_getD hi]
  rw [not_or] at h
  rw [Bool.and_eq_true, open_, inC, Bool.not_eq_true', Bool.and_eq_false_iff, decide_eq_false_iff_not, decide_eq_false_iff_not, Bool.or_eq_true, decide_eq_true_eq, decide_eq_true_eq]
  refine ⟨Classical.not_and_iff_not_or_not.1 h.2, ?_⟩
  rcases Classical.not_and_iff_not_or_not.1 h.1 with h | h
  · exact .inl (Classical.not_not.1 h)
  · exact .inr (Classical.not_not.1 h)
theorem rc_bnd {ls : List (List Int)} {a : List Bool} {n : Nat} {c : List Int} {last : Int} (i : Nat) : rcTo ls a n c last i = 0 ∨ (1 ≤ rcTo ls a n c last i ∧ rcTo ls a n c last i ≤ n) := by
  rcases fold_mem (g := breaks ls a) (((upto n).take i).filter (fun v => open_ c last v && inC c v)) 0 with h | h
  · exact .inl h
  · exact .inr (upto_mem.1 (List.mem_of_mem_take (List.mem_filter.1 h).1))
theorem pstep_take {g : Int → Nat} {b v : Int} (h : b = 0 ∨ g v < g b) : pstep g b v = v := if_pos h
theorem pstep_keep {g : Int → Nat} {b v : Int} (h : ¬ (b = 0 ∨ g v < g b)) : pstep g b v = b := if_neg h
theorem unsat_at {ls : List (List Int)} {a : List Bool} {j : Nat} (hj : j < ls.length) (h : ∀ y ∈ ls.take j, sat a y = true) (h2 : sat a (ls.getD j []) = false) : unsat ls a = j := by
  unfold unsat
  exact idx_at (z := []) hj (fun y hy => by rw [h y hy]; rfl) (by rw [h2]; rfl)
theorem unsat_none {ls : List (List Int)} {a : List Bool} {j : Nat} (hj : ls.length ≤ j) (h : ∀ y ∈ ls.take j, sat a y = true) : unsat ls a = -1 := by
  unfold unsat
  rw [List.take_of_length_le hj] at h
  exact idx_none (fun y hy => by rw [h y hy]; rfl)
theorem stop_at {ls : List (List Int)} {b : List Bool} {j : Nat} (h1 : j < ls.length → unsat ls b = j) (h2 : ls.length ≤ j → unsat ls b = -1) (h : j = ls.length ∨ (ls.getD j []).length = 0) : unsat ls b < 0 ∨ (ls.getD (unsat ls b).toNat []).length = 0 := by
  by_cases hj : ls.length ≤ j
  · rw [h2 hj]; exact .inl (by decide)
  · rw [h1 (by omega), Int.toNat_natCast]
    exact .inr (h.resolve_left (by omega))
theorem go_at {ls : List (List Int)} {b : List Bool} {j : Nat} (h1 : j < ls.length → unsat ls b = j) (hj : j < ls.length ∧ (ls.getD j []).length ≠ 0) : ¬ (unsat ls b < 0 ∨ (ls.getD (unsat ls b).toNat []).length = 0) := by
  rw [h1 hj.1, Int.toNat_natCast]
  have := hj.2
  omega
theorem with_24 {n : Int} {ls : List (List Int)} {m : Nat} (h : (withA n ls m).1 = 0) : ∀ l ∈ ls, l.length ≤ 24 := by
  unfold withA at h
  split at h
  · cases h
  · exact fun l hl => ((check_ok h).2.2 l hl).1
theorem walkOf_against : Sp.walkOf 2 [[1, 2], [-1], [-2]] [true, true] 3 = ((walkR [[1, 2], [-1], [-2]] 3 [true, true] 0 0).1, 3, 0, 0) := by
  have h : (withA 2 [[1, 2], [-1], [-2]] 2).1 = 0 := by simp [withA, check, checkFrom, wrong, wrongFrom, dup, Int.max_def]
  rw [walkOf, if_neg (fun h2 => h2 h), if_neg (by decide)]
  show (_, (((walkR [[1, 2], [-1], [-2]] 3 [true, true] 0 0).2 : Nat) : Int), (0 : Int), (0 : Int)) = _
  rw [walk_against]
  rfl
theorem walkOf_bad {n : Int} {ls : List (List Int)} {a : List Bool} {flips : Int} (h : (walkOf n ls a flips).2.2.1 ≠ 0) : (walkOf n ls a flips).1 = [] ∧ (walkOf n ls a flips).2.1 = 0 := by
  unfold walkOf at h ⊢
  split
  · exact ⟨rfl, rfl⟩
  · split
    · exact ⟨rfl, rfl⟩
    · rename_i h1 h2
      rw [if_neg h1, if_neg h2] at h
      exact absurd rfl h

def unlTo (a b : List Bool) (i : Nat) : Nat := ((List.range i).filter fun i => decide (a.getD i false ≠ b.getD i false)).length
theorem unlTo_le (a b : List Bool) (i : Nat) : unlTo a b i ≤ i := Nat.le_trans (List.length_filter_le _ _) (by simp)
theorem unlTo_yes {a b : List Bool} {i : Nat} (h : a.getD i false ≠ b.getD i false) : unlTo a b (i + 1) = unlTo a b i + 1 := by
  unfold unlTo
  rw [List.range_succ, List.filter_append, List.filter_cons_of_pos (by simpa using h)]
  simp
theorem unlTo_no {a b : List Bool} {i : Nat} (h : a.getD i false = b.getD i false) : unlTo a b (i + 1) = unlTo a b i := by
  unfold unlTo
  rw [List.range_succ, List.filter_append, List.filter_cons_of_neg (by simpa using h)]
  simp

theorem walkOf_law {n : Int} {ls : List (List Int)} {a : List Bool} {flips : Int} (h : (walkOf n ls a flips).2.2.1 = 0) :
    ((walkOf n ls a flips).1.length : Int) = n ∧ (a.length : Int) = n ∧ 0 ≤ (walkOf n ls a flips).2.1 ∧ (walkOf n ls a flips).2.1 ≤ flips ∧ (unlike a (walkOf n ls a flips).1 : Int) ≤ (walkOf n ls a flips).2.1 ∧ ((walkOf n ls a flips).2.1 - unlike a (walkOf n ls a flips).1) % 2 = 0 ∧
    ((walkOf n ls a flips).2.1 = flips ∨ ∀ i, i < ls.length → (∀ y ∈ ls.take i, sat (walkOf n ls a flips).1 y = true) → sat (walkOf n ls a flips).1 (ls.getD i []) = false → (ls.getD i []).length = 0) ∧ (∀ l ∈ ls, Good (walkOf n ls a flips).1.length l) := by
  have h0 : (withA n ls a.length).1 = 0 := by
    refine Classical.byContradiction fun hc => ?_
    rw [walkOf, if_pos hc] at h
    exact hc h
  have h1 : ¬ (flips < 0 ∨ 2000 < flips) := by
    intro hc
    rw [walkOf, if_neg (fun h2 => h2 h0), if_pos hc] at h
    cases h
  have hw : walkOf n ls a flips = ((walkR ls flips.toNat a 0 0).1, ((walkR ls flips.toNat a 0 0).2 : Int), 0, 0) := by rw [walkOf, if_neg (fun h2 => h2 h0), if_neg h1]
  have hu := wrong_use h0
  have hl := with_ok h0
  obtain ⟨g1, g2, g3, g4, g5, g6⟩ := walk_law (n := a.length) hu rfl flips.toNat a 0 0 rfl (by rw [unlike_self]; exact Nat.le_refl _) (by rw [unlike_self])
  rw [hw]
  dsimp only
  refine ⟨by omega, hl.1, by omega, by omega, by omega, by omega, ?_, fun l hm => by rw [g1]; exact (hu l hm).1⟩
  rcases g6 with g6 | g6
  · exact .inl (by omega)
  · refine .inr fun i hi hp hs => ?_
    have e := unsat_at hi hp hs
    rw [e, Int.toNat_natCast] at g6
    exact g6.resolve_left (by omega)

theorem breaks_le (ls : List (List Int)) (a : List Bool) (v : Int) : breaks ls a v ≤ ls.length := List.length_filter_le _ _

end Sp
end Go.Um
