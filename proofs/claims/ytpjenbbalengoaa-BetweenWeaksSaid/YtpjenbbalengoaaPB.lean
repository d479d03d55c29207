/- Plain laws: what unit propagation on a trail keeps and tells, and clauses that follow by it. No program in sight. No condition. -/
import Derived.Test.YtpjenbbalengoaaPA
namespace Go.Um
namespace Sp

/-- Clauses as they come: literals that are not 0, no variable twice. -/
def Cl (c : List Int) : Prop := c.Nodup ∧ ∀ x ∈ c, x ≠ 0 ∧ -x ∉ c
def Nz (ls : List (List Int)) : Prop := ∀ c ∈ ls, ∀ x ∈ c, x ≠ 0

/-- No clause is false on T, and none has a last literal open. -/
def Shut (ls : List (List Int)) (T : List Int) : Prop := ∀ c ∈ ls, (∃ x ∈ c, -x ∉ T) ∧ ∀ l ∈ c, (∀ y ∈ c, y ≠ l → -y ∈ T) → l ∈ T
/-- Propagation from the negatives of a clause comes to a false clause. -/
def Rup (ls : List (List Int)) (c : List Int) : Prop := ∀ T, Shut ls T → (∀ x ∈ c, -x ∈ T) → False

theorem idxV_neg {α : Type} {p : α → Bool} {l : List α} (h : idx p l < 0) : ∀ y ∈ l, p y = false := by
  unfold idx at h
  cases hf : l.findIdx? p with
  | some i => rw [hf] at h; simp at h; omega
  | none => rw [List.findIdx?_eq_none_iff] at hf; exact hf

theorem idx_ge {α : Type} (p : α → Bool) (l : List α) : -1 ≤ idx p l := by
  unfold idx
  cases l.findIdx? p with
  | none => exact Int.le_refl _
  | some i => show -1 ≤ (i : Int); omega
theorem idx_before {α : Type} {p : α → Bool} {l : List α} {k : Nat} (h : idx p l = k) : ∀ y ∈ l.take k, p y = false := by
  unfold idx at h
  cases hf : l.findIdx? p with
  | none => rw [hf] at h; simp at h
  | some i =>
    rw [hf] at h
    obtain rfl : i = k := by simp at h; omega
    rw [List.findIdx?_eq_some_iff_getElem] at hf
    obtain ⟨h1, h2, h3⟩ := hf
    intro y hy
    rw [List.mem_take_iff_getElem] at hy
    obtain ⟨j, hj, rfl⟩ := hy
    simpa using h3 j (by omega)

theorem idxV_le {α : Type} {p : α → Bool} {l : List α} {j : Nat} (z : α) (hj : j < l.length) (h : p (l.getD j z) = true) : 0 ≤ idx p l ∧ idx p l ≤ j := by
  unfold idx
  cases hf : l.findIdx? p with
  | none =>
    rw [List.findIdx?_eq_none_iff] at hf
    have := hf _ (getD_mem l j z hj)
    rw [h] at this
    cases this
  | some i =>
    rw [List.findIdx?_eq_some_iff_getElem] at hf
    obtain ⟨h1, h2, h3⟩ := hf
    refine ⟨by simp, ?_⟩
    by_cases hij : i ≤ j
    · simp; omega
    · have := h3 j (by omega)
      simp only [List.getD, List.getElem?_eq_getElem hj, Option.getD_some] at h
      rw [h] at this
      simp at this

theorem idx_app {α : Type} {p : α → Bool} {l m : List α} (h : 0 ≤ idx p l) : idx p (l ++ m) = idx p l := by
  unfold idx at h ⊢
  rw [List.findIdx?_append]
  cases hf : l.findIdx? p with
  | none => rw [hf] at h; simp at h
  | some i => simp

theorem falseIn_iff {c T : List Int} (hz : ∀ x ∈ c, x ≠ 0) : falseIn c T 0 = true ↔ ∀ x ∈ c, -x ∈ T := by
  unfold falseIn
  simp only [List.all_eq_true, Bool.or_eq_true, decide_eq_true_eq]
  exact ⟨fun h x hx => (h x hx).resolve_left (hz x hx), fun h x hx => .inr (h x hx)⟩

theorem conf_neg {ls : List (List Int)} {T : List Int} (hz : Nz ls) (h : conf ls T < 0) : ∀ c ∈ ls, ∃ x ∈ c, -x ∉ T := by
  intro c hc
  have h1 := idxV_neg h c hc
  have h2 : ¬ ∀ x ∈ c, -x ∈ T := fun h3 => by rw [(falseIn_iff (hz c hc)).2 h3] at h1; cases h1
  exact Classical.byContradiction fun h4 => h2 fun x hx => Classical.byContradiction fun h5 => h4 ⟨x, hx, h5⟩

theorem conf_at {ls : List (List Int)} {T : List Int} (hz : Nz ls) (h : 0 ≤ conf ls T) : (conf ls T).toNat < ls.length ∧ ls.getD (conf ls T).toNat [] ∈ ls ∧ ∀ x ∈ ls.getD (conf ls T).toNat [], -x ∈ T := by
  obtain ⟨h1, h2⟩ := idx_mem (p := fun l => falseIn l T 0) (l := ls) [] (show ¬ idx (fun l => falseIn l T 0) ls < 0 by unfold conf at h; omega)
  exact ⟨h1, getD_mem _ _ _ h1, (falseIn_iff (hz _ (getD_mem _ _ _ h1))).1 h2⟩

theorem conf_le {ls : List (List Int)} {T : List Int} (hz : Nz ls) {j : Nat} (hj : j < ls.length) (h : ∀ x ∈ ls.getD j [], -x ∈ T) : 0 ≤ conf ls T ∧ conf ls T ≤ j :=
  idxV_le [] hj ((falseIn_iff (hz _ (getD_mem _ _ _ hj))).2 h)

theorem must_eq {c T : List Int} {l : Int} (hl : l ∈ c) (h : ∀ y ∈ c, y ≠ l → -y ∈ T) (h1 : l ∉ T) (h2 : -l ∉ T) : must c T = l := by
  have hf : free T l = true := by simp [free, h1, h2]
  unfold must
  cases hfi : c.find? (free T) with
  | none => rw [List.find?_eq_none] at hfi; exact absurd hf (hfi l hl)
  | some x =>
    have h3 := List.find?_some hfi
    have h4 := List.mem_of_find?_eq_some hfi
    simp only [free, Bool.and_eq_true, Bool.not_eq_true', decide_eq_false_iff_not] at h3
    have : x = l := Classical.byContradiction fun h5 => h3.2 (h x h4 h5)
    subst this
    have hfa : falseIn c T x = true := by
      unfold falseIn
      simp only [List.all_eq_true, Bool.or_eq_true, decide_eq_true_eq]
      intro y hy
      by_cases e : y = x
      · exact .inl e
      · exact .inr (h y hy e)
    simp [hfa]

theorem unit_neg {ls : List (List Int)} {T : List Int} (h : unit ls T < 0) : ∀ c ∈ ls, must c T = 0 := by
  intro c hc
  have := idxV_neg h c hc
  simpa using this

theorem unit_le {ls : List (List Int)} {T : List Int} {j : Nat} (hj : j < ls.length) {l : Int} (hl : l ∈ ls.getD j []) (hz : l ≠ 0) (h : ∀ y ∈ ls.getD j [], y ≠ l → -y ∈ T) (h1 : l ∉ T) (h2 : -l ∉ T) : 0 ≤ unit ls T ∧ unit ls T ≤ j :=
  idxV_le (p := fun l => !decide (must l T = 0)) [] hj (by rw [must_eq hl h h1 h2]; simp [hz])

theorem shut_of {ls : List (List Int)} {T : List Int} (hz : Nz ls) (hc : conf ls T < 0) (hu : unit ls T < 0) : Shut ls T := by
  intro c hcm
  have h1 := conf_neg hz hc c hcm
  refine ⟨h1, fun l hl h => Classical.byContradiction fun h2 => ?_⟩
  by_cases h3 : -l ∈ T
  · obtain ⟨x, hx, hx2⟩ := h1
    by_cases e : x = l
    · subst e; exact hx2 h3
    · exact hx2 (h x hx e)
  · have := unit_neg hu c hcm
    rw [must_eq hl h h2 h3] at this
    exact hz c hcm l hl this

/-- What holds ahead and is kept by a step holds behind. -/
theorem on_keep {ls : List (List Int)} {Q : List Int → List Int → Prop} (hs : ∀ t w, Q t w → conf ls t < 0 → 0 ≤ unit ls t → Q (t ++ [must (ls.getD (unit ls t).toNat []) t]) (w ++ [unit ls t])) (t w : List Int) (h : Q t w) : Q (on ls t w).1 (on ls t w).2.1 := by
  induction hm : room ls t using Nat.strongRecOn generalizing t w with
  | _ m ih =>
    rw [on]
    by_cases hc : 0 ≤ conf ls t
    · rw [if_pos hc]; exact h
    · rw [if_neg hc]
      by_cases hu : unit ls t < 0
      · rw [dif_pos hu]; exact h
      · rw [dif_neg hu]
        exact ih _ (by rw [← hm]; exact on_step hu) _ _ (hs t w h (by omega) (by omega)) rfl

theorem onV_end (ls : List (List Int)) (t w : List Int) : (0 ≤ conf ls (on ls t w).1 ∧ (on ls t w).2.2 = conf ls (on ls t w).1) ∨ (conf ls (on ls t w).1 < 0 ∧ unit ls (on ls t w).1 < 0 ∧ (on ls t w).2.2 = -1) := by
  induction hm : room ls t using Nat.strongRecOn generalizing t w with
  | _ m ih =>
    rw [on]
    by_cases hc : 0 ≤ conf ls t
    · rw [if_pos hc]; exact .inl ⟨hc, rfl⟩
    · rw [if_neg hc]
      by_cases hu : unit ls t < 0
      · rw [dif_pos hu]; exact .inr ⟨by show conf ls t < 0; omega, hu, rfl⟩
      · rw [dif_neg hu]
        exact ih _ (by rw [← hm]; exact on_step hu) _ _ rfl

theorem on_shut {ls : List (List Int)} (hz : Nz ls) {t w : List Int} (h : (on ls t w).2.2 < 0) : Shut ls (on ls t w).1 := by
  rcases onV_end ls t w with ⟨h1, h2⟩ | ⟨h1, h2, _⟩
  · omega
  · exact shut_of hz h1 h2

theorem on_ext (ls : List (List Int)) (t w : List Int) : ∃ e f, (on ls t w).1 = t ++ e ∧ (on ls t w).2.1 = w ++ f ∧ e.length = f.length ∧ ∀ x ∈ f, 0 ≤ x := by
  refine on_keep (ls := ls) (Q := fun t' w' => ∃ e f, t' = t ++ e ∧ w' = w ++ f ∧ e.length = f.length ∧ ∀ x ∈ f, 0 ≤ x) ?_ t w ⟨[], [], by simp⟩
  rintro t' w' ⟨e, f, rfl, rfl, h1, h2⟩ _ hu
  refine ⟨e ++ [_], f ++ [_], (List.append_assoc ..), (List.append_assoc ..), by simp [h1], fun x hx => ?_⟩
  rcases List.mem_append.1 hx with h3 | h3
  · exact h2 x h3
  · rw [List.mem_singleton.1 h3]; exact hu

theorem rup_falls {ls : List (List Int)} (hz : Nz ls) {c w : List Int} (h : Rup ls c) : 0 ≤ (on ls (c.map fun x => -x) w).2.2 := by
  refine Classical.byContradiction fun h1 => ?_
  obtain ⟨e, f, h2, _⟩ := on_ext ls (c.map fun x => -x) w
  refine h _ (on_shut hz (by omega : (on ls (c.map fun x => -x) w).2.2 < 0)) fun x hx => ?_
  rw [h2]
  exact List.mem_append_left _ (List.mem_map.2 ⟨x, hx, rfl⟩)

/-! ### Assignments -/

theorem litV_neg {a : List Bool} {x : Int} (h : x ≠ 0) : lit a (-x) = !lit a x := by
  unfold lit
  by_cases h1 : 0 < x
  · rw [if_neg (by omega), if_pos h1, Int.neg_neg]
  · rw [if_pos (by omega), if_neg h1]; simp

theorem sat_iff {a : List Bool} {c : List Int} : sat a c = true ↔ ∃ x ∈ c, lit a x = true := by simp [sat]
theorem all_iff {a : List Bool} {ls : List (List Int)} : all a ls = true ↔ ∀ c ∈ ls, ∃ x ∈ c, lit a x = true := by simp [all, sat]

theorem on_model {ls : List (List Int)} (hz : Nz ls) {a : List Bool} (ha : all a ls = true) {t w : List Int} (ht : ∀ x ∈ t, lit a x = true) : (on ls t w).2.2 = -1 ∧ ∀ x ∈ (on ls t w).1, lit a x = true := by
  rw [all_iff] at ha
  have hk := on_keep (ls := ls) (Q := fun t _ => ∀ x ∈ t, lit a x = true) (by
    intro t w ht hc hu x hx
    rcases List.mem_append.1 hx with h | h
    · exact ht x h
    rw [List.mem_singleton.1 h]
    obtain ⟨h1, h2⟩ := unit_mem (ls := ls) (t := t) (by omega)
    obtain ⟨h3, h4, h5, h6⟩ := must_spec h1
    obtain ⟨y, hy, hy2⟩ := ha _ h2
    unfold falseIn at h6
    simp only [List.all_eq_true, Bool.or_eq_true, decide_eq_true_eq] at h6
    rcases h6 y hy with h7 | h7
    · rw [← h7]; exact hy2
    · have := ht _ h7
      rw [litV_neg (hz _ h2 y hy), hy2] at this
      cases this) t w ht
  refine ⟨?_, hk⟩
  rcases onV_end ls t w with ⟨h1, h2⟩ | ⟨_, _, h2⟩
  · exfalso
    obtain ⟨h3, h4, h5⟩ := conf_at hz h1
    obtain ⟨y, hy, hy2⟩ := ha _ h4
    have := hk _ (h5 y hy)
    rw [litV_neg (hz _ h4 y hy), hy2] at this
    cases this
  · exact h2

theorem falls_sound {ls : List (List Int)} (hz : Nz ls) {c w : List Int} (hc : ∀ x ∈ c, x ≠ 0) (h : 0 ≤ (on ls (c.map fun x => -x) w).2.2) {a : List Bool} (ha : all a ls = true) : sat a c = true := by
  refine Classical.byContradiction fun h1 => ?_
  rw [sat_iff] at h1
  have := (on_model hz ha (t := c.map fun x => -x) (w := w) (by
    intro x hx
    obtain ⟨y, hy, rfl⟩ := List.mem_map.1 hx
    rw [litV_neg (hc y hy)]
    cases h2 : lit a y
    · rfl
    · exact absurd ⟨y, hy, h2⟩ h1)).1
  omega

theorem rup_sound {ls : List (List Int)} (hz : Nz ls) {c : List Int} (hc : ∀ x ∈ c, x ≠ 0) (h : Rup ls c) {a : List Bool} (ha : all a ls = true) : sat a c = true := falls_sound (w := []) hz hc (rup_falls hz h) ha

theorem Shut.mono {ls ms : List (List Int)} {T : List Int} (h : Shut ms T) (hs : ∀ c ∈ ls, c ∈ ms) : Shut ls T := fun c hc => h c (hs c hc)
theorem Rup.mono {ls ms : List (List Int)} {c : List Int} (h : Rup ls c) (hs : ∀ c ∈ ls, c ∈ ms) : Rup ms c := fun T hT => h T (hT.mono hs)

/-! ### Places -/

/-- The place of a number; -1: there is none. -/
def place (L : List Int) (x : Int) : Int := idx (fun y => decide (y = x)) L

theorem place_at {L : List Int} {x : Int} (h : x ∈ L) : 0 ≤ place L x ∧ (place L x).toNat < L.length ∧ L.getD (place L x).toNat 0 = x := by
  have h0 : ¬ idx (fun y => decide (y = x)) L < 0 := fun h1 => by have := idxV_neg h1 x h; simp at this
  obtain ⟨h1, h2⟩ := idx_mem 0 h0
  refine ⟨by unfold place; omega, h1, of_decide_eq_true h2⟩

theorem place_lt {L : List Int} {x : Int} : x ∈ L ↔ 0 ≤ place L x := by
  refine ⟨fun h => (place_at h).1, fun h => ?_⟩
  obtain ⟨h1, h2⟩ := idx_mem (p := fun y => decide (y = x)) (l := L) 0 (by unfold place at h; omega)
  have h3 := getD_mem L _ 0 h1
  simp only [decide_eq_true_eq] at h2
  rw [h2] at h3
  exact h3

/-- Literals of a trail: no variable twice. -/
def Dist (L : List Int) : Prop := ∀ i, i < L.length → L.getD i 0 ∉ L.take i ∧ -L.getD i 0 ∉ L.take i

theorem mem_take {L : List Int} {i : Nat} {x : Int} : x ∈ L.take i ↔ ∃ j, j < i ∧ j < L.length ∧ L.getD j 0 = x := by
  rw [List.mem_take_iff_getElem]
  constructor
  · rintro ⟨j, hj, rfl⟩
    exact ⟨j, by omega, by omega, by simp [List.getD, List.getElem?_eq_getElem (show j < L.length by omega)]⟩
  · rintro ⟨j, h1, h2, rfl⟩
    exact ⟨j, by omega, by simp [List.getD, List.getElem?_eq_getElem h2]⟩

theorem memV_getD {L : List Int} {x : Int} : x ∈ L ↔ ∃ j, j < L.length ∧ L.getD j 0 = x := by
  have := mem_take (L := L) (i := L.length) (x := x)
  rw [List.take_of_length_le (Nat.le_refl _)] at this
  rw [this]
  exact ⟨fun ⟨j, _, h2, h3⟩ => ⟨j, h2, h3⟩, fun ⟨j, h2, h3⟩ => ⟨j, h2, h2, h3⟩⟩

theorem Dist.inj {L : List Int} (h : Dist L) {i j : Nat} (hi : i < L.length) (hj : j < L.length) (e : L.getD i 0 = L.getD j 0) : i = j := by
  rcases Nat.lt_trichotomy i j with h1 | h1 | h1
  · exact absurd (mem_take.2 ⟨i, h1, hi, e⟩) (h j hj).1
  · exact h1
  · exact absurd (mem_take.2 ⟨j, h1, hj, e.symm⟩) (h i hi).1

theorem Dist.neg {L : List Int} (h : Dist L) {x : Int} (hz : ∀ y ∈ L, y ≠ 0) (h1 : x ∈ L) : -x ∉ L := by
  intro h2
  obtain ⟨i, hi, rfl⟩ := memV_getD.1 h1
  obtain ⟨j, hj, e⟩ := memV_getD.1 h2
  rcases Nat.lt_trichotomy i j with h3 | h3 | h3
  · exact (h j hj).2 (mem_take.2 ⟨i, h3, hi, by omega⟩)
  · subst h3
    have := hz _ h1
    omega
  · exact (h i hi).2 (mem_take.2 ⟨j, h3, hj, e⟩)

theorem Dist.place {L : List Int} (h : Dist L) {i : Nat} (hi : i < L.length) : Sp.place L (L.getD i 0) = i := by
  obtain ⟨h1, h2, h3⟩ := place_at (getD_mem L i 0 hi)
  have := h.inj h2 hi h3
  omega

theorem Dist.snoc {L : List Int} (h : Dist L) {x : Int} (h1 : x ∉ L) (h2 : -x ∉ L) : Dist (L ++ [x]) := by
  intro i hi
  simp only [List.length_append, List.length_cons, List.length_nil] at hi
  by_cases e : i < L.length
  · rw [List.take_append_of_le_length (by omega)]
    have : (L ++ [x]).getD i 0 = L.getD i 0 := by simp [List.getD, List.getElem?_append_left e]
    rw [this]
    exact h i e
  · obtain rfl : i = L.length := by omega
    have : (L ++ [x]).getD L.length 0 = x := by simp [List.getD]
    rw [this, List.take_append_of_le_length (Nat.le_refl _), List.take_of_length_le (Nat.le_refl _)]
    exact ⟨h1, h2⟩

theorem Dist.take {L : List Int} (h : Dist L) (p : Nat) : Dist (L.take p) := by
  intro i hi
  simp only [List.length_take] at hi
  rw [getD_take L p i 0 (by omega), List.take_take, Nat.min_eq_left (by omega)]
  exact h i (by omega)

/-- So many numbers, all different, from a range. -/
theorem nodup_lt : ∀ (n : Nat) (l : List Nat), l.Nodup → (∀ x ∈ l, x < n) → l.length ≤ n
  | 0, l, _, h => by
    cases l with
    | nil => simp
    | cons x l => exact absurd (h x (List.mem_cons_self ..)) (Nat.not_lt_zero _)
  | n + 1, l, hn, h => by
    have h1 : (l.filter fun x => !decide (x = n)).length ≤ n := nodup_lt n _ (hn.filter _) (fun x hx => by
      rw [List.mem_filter] at hx
      have := h x hx.1
      simp at hx
      omega)
    have h2 : (l.filter fun x => decide (x = n)).length ≤ 1 := by
      by_cases hm : n ∈ l
      · have h3 : (l.filter fun x => decide (x = n)).Nodup := hn.filter _
        have h4 : ∀ x ∈ l.filter fun x => decide (x = n), x = n := fun x hx => by simpa using (List.mem_filter.1 hx).2
        generalize l.filter (fun x => decide (x = n)) = m at h3 h4
        match m, h3, h4 with
        | [], _, _ => simp
        | [_], _, _ => simp
        | a :: b :: m, h3, h4 =>
          rw [List.nodup_cons] at h3
          have e1 := h4 a (List.mem_cons_self ..)
          have e2 := h4 b (List.mem_cons_of_mem _ (List.mem_cons_self ..))
          exact absurd (by rw [e1, ← e2]; exact List.mem_cons_self ..) h3.1
      · rw [List.filter_eq_nil_iff.2 (fun x hx => by simp; rintro rfl; exact hm hx)]
        simp
    have h3 : l.length = (l.filter fun x => decide (x = n)).length + (l.filter fun x => !decide (x = n)).length := by
      clear hn h h1 h2
      induction l with
      | nil => rfl
      | cons x l ih =>
        by_cases e : x = n
        · rw [List.filter_cons_of_pos (by simpa using e), List.filter_cons_of_neg (by simpa using e), List.length_cons, List.length_cons]; omega
        · rw [List.filter_cons_of_neg (by simpa using e), List.filter_cons_of_pos (by simpa using e), List.length_cons, List.length_cons]; omega
    omega

theorem Dist.len {L : List Int} {n : Nat} (h : Dist L) (hG : Good n L) : L.length ≤ n := by
  have h1 : (L.map fun x => (max x (-x)).toNat - 1).Nodup := by
    rw [List.nodup_iff_pairwise_ne, List.pairwise_map, List.pairwise_iff_getElem]
    intro i j hi hj hij e
    have hz : ∀ k (hk : k < L.length), L.getD k 0 = L[k] := fun k hk => by simp [List.getD, List.getElem?_eq_getElem hk]
    have h2 := h j hj
    rw [hz j hj] at h2
    have g1 := hG _ (List.getElem_mem hi)
    have g2 := hG _ (List.getElem_mem hj)
    have : L[i] = L[j] ∨ L[i] = -L[j] := by omega
    rcases this with e2 | e2
    · exact h2.1 (mem_take.2 ⟨i, hij, hi, by rw [hz i hi]; exact e2⟩)
    · exact h2.2 (mem_take.2 ⟨i, hij, hi, by rw [hz i hi]; exact e2⟩)
  have h2 := nodup_lt n _ h1 (fun y hy => by
    obtain ⟨x, hx, rfl⟩ := List.mem_map.1 hy
    have := hG x hx
    omega)
  simpa using h2
end Sp
end Go.Um
