/- Plain laws: what unit propagation on a trail keeps and tells, and clauses that follow by it. No program in sight. No condition. -/
import Derived.Test.YtfjafkocejoigaaGreatPA
namespace Go.Um
namespace Sp
def Cl (c : List Int) : Prop := c.Nodup ∧ ∀ x ∈ c, x ≠ 0 ∧ -x ∉ c
def Nz (ls : List (List Int)) : Prop := ∀ c ∈ ls, ∀ x ∈ c, x ≠ 0
def Shut (ls : List (List Int)) (T : List Int) : Prop := ∀ c ∈ ls, (∃ x ∈ c, -x ∉ T) ∧ ∀ l ∈ c, (∀ y ∈ c, y ≠ l → -y ∈ T) → l ∈ T
def Rup (ls : List (List Int)) (c : List Int) : Prop := ∀ T, Shut ls T → (∀ x ∈ c, -x ∈ T) → False

theorem idxV_neg {α : Type} {p : α → Bool} {l : List α} (h : idx p l < 0) : ∀ y ∈ l, p y = false := by
  unfold idx at h
  cases hf : l.findIdx? p with
  | some i => rw [hf] at h; simp at h; omega
  | none => rw [List.findIdx?_eq_none_iff] at hf; exact hf

theorem idx_ge {α : Type} (p : α → Bool) (l : List α) : -1 ≤ idx p l := by
  unfold idx
  cases l.findIdx? p with
  | none => exact Int.le_refl _
  | some i => show -1 ≤ (i : Int); omega
theorem idx_before {α : Type} {p : α → Bool} {l : List α} {k : Nat} (h : idx p l = k) : ∀ y ∈ l.take k, p y = false := by
  unfold idx at h
  cases hf : l.findIdx? p with
  | none => rw [hf] at h; simp at h
  | some i =>
    rw [hf] at h
    obtain rfl : i = k := by simp at h; omega
    rw [List.findIdx?_eq_some_iff_getElem] at hf
    obtain ⟨h1, h2, h3⟩ := hf
    intro y hy
    rw [List.mem_take_iff_getElem] at hy
    obtain ⟨j, hj, rfl⟩ := hy
    simpa using h3 j (by omega)

theorem idxV_le {α : Type} {p : α → Bool} {l : List α} {j : Nat} (z : α) (hj : j < l.length) (h : p (l.getD j z) = true) : 0 ≤ idx p l ∧ idx p l ≤ j := by
  unfold idx
  cases hf : l.findIdx? p with
  | none =>
    rw [List.findIdx?_eq_none_iff] at hf
    have := hf _ (getD_mem l j z hj)
    rw [h] at this
    cases this
  | some i =>
    rw [List.findIdx?_eq_some_iff_getElem] at hf
    obtain ⟨h1, h2, h3⟩ := hf
    refine ⟨by simp, ?_⟩
    by_cases hij : i ≤ j
    · simp; omega
    · have := h3 j (by omega)
      simp only [List.getD, List.getElem?_eq_getElem hj, Option.getD_some] at h
      rw [h] at this
      simp at this

theorem idx_app {α : Type} {p : α → Bool} {l m : List α} (h : 0 ≤ idx p l) : idx p (l ++ m) = idx p l := by
  unfold idx at h ⊢
  rw [List.findIdx?_append]
  cases hf : l.findIdx? p with
  | none => rw [hf] at h; simp at h
  | some i => simp

theorem falseIn_iff {c T : List Int} (hz : ∀ x ∈ c, x ≠ 0) : falseIn c T 0 = true ↔ ∀ x ∈ c, -x ∈ T := by
  unfold falseIn
  simp only [List.all_eq_true, Bool.or_eq_true, decide_eq_true_eq]
  exact ⟨fun h x hx => (h x hx).resolve_left (hz x hx), fun h x hx => .inr (h x hx)⟩

theorem conf_neg {ls : List (List Int)} {T : List Int} (hz : Nz ls) (h : conf ls T < 0) : ∀ c ∈ ls, ∃ x ∈ c, -x ∉ T := by
  intro c hc
  have h1 := idxV_neg h c hc
  have h2 : ¬ ∀ x ∈ c, -x ∈ T := fun h3 => by rw [(falseIn_iff (hz c hc)).2 h3] at h1; cases h1
  exact Classical.byContradiction fun h4 => h2 fun x hx => Classical.byContradiction fun h5 => h4 ⟨x, hx, h5⟩

theorem conf_at {ls : List (List Int)} {T : List Int} (hz : Nz ls) (h : 0 ≤ conf ls T) : (conf ls T).toNat < ls.length ∧ ls.getD (conf ls T).toNat [] ∈ ls ∧ ∀ x ∈ ls.getD (conf ls T).toNat [], -x ∈ T := by
  obtain ⟨h1, h2⟩ := idx_mem (p := fun l => falseIn l T 0) (l := ls) [] (show ¬ idx (fun l => falseIn l T 0) ls < 0 by unfold conf at h; omega)
  exact ⟨h1, getD_mem _ _ _ h1, (falseIn_iff (hz _ (getD_mem _ _ _ h1))).1 h2⟩

theorem conf_le {ls : List (List Int)} {T : List Int} (hz : Nz ls) {j : Nat} (hj : j < ls.length) (h : ∀ x ∈ ls.getD j [], -x ∈ T) : 0 ≤ conf ls T ∧ conf ls T ≤ j :=
  idxV_le [] hj ((falseIn_iff (hz _ (getD_mem _ _ _ hj))).2 h)

theorem must_eq {c T : List Int} {l : Int} (hl : l ∈ c) (h : ∀ y ∈ c, y ≠ l → -y ∈ T) (h1 : l ∉ T) (h2 : -l ∉ T) : must c T = l := by
  have hf : free T l = true := by simp [free, h1, h2]
  unfold must
  cases hfi : c.find? (free T) with
  | none => rw [List.find?_eq_none] at hfi; exact absurd hf (hfi l hl)
  | some x =>
    have h3 := List.find?_some hfi
    have h4 := List.mem_of_find?_eq_some hfi
    simp only [free, Bool.and_eq_true, Bool.not_eq_true', decide_eq_false_iff_not] at h3
    have : x = l := Classical.byContradiction fun h5 => h3.2 (h x h4 h5)
    subst this
    have hfa : falseIn c T x = true := by
      unfold falseIn
      simp only [List.all_eq_true, Bool.or_eq_true, decide_eq_true_eq]
      intro y hy
      by_cases e : y = x
      · exact .inl e
      · exact .inr (h y hy e)
    simp [hfa]

theorem unit_neg {ls : List (List Int)} {T : List Int} (h : unit ls T < 0) : ∀ c ∈ ls, must c T = 0 := by
  intro c hc
  have := idxV_neg h c hc
  simpa using this

theorem unit_le {ls : List (List Int)} {T : List Int} {j : Nat} (hj : j < ls.length) {l : Int} (hl : l ∈ ls.getD j []) (hz : l ≠ 0) (h : ∀ y ∈ ls.getD j [], y ≠ l → -y ∈ T) (h1 : l ∉ T) (h2 : -l ∉ T) : 0 ≤ unit ls T ∧ unit ls T ≤ j :=
  idxV_le (p := fun l => !decide (must l T = 0)) [] hj (by rw [must_eq hl h h1 h2]; simp [hz])

theorem shut_of {ls : List (List Int)} {T : List Int} (hz : Nz ls) (hc : conf ls T < 0) (hu : unit ls T < 0) : Shut ls T := by
  intro c hcm
  have h1 := conf_neg hz hc c hcm
  refine ⟨h1, fun l hl h => Classical.byContradiction fun h2 => ?_⟩
  by_cases h3 : -l ∈ T
  · obtain ⟨x, hx, hx2⟩ := h1
    by_cases e : x = l
    · subst e; exact hx2 h3
    · exact hx2 (h x hx e)
  · have := unit_neg hu c hcm
    rw [must_eq hl h h2 h3] at this
    exact hz c hcm l hl this
theorem on_keep {ls : List (List Int)} {Q : List Int → List Int → Prop} (hs : ∀ t w, Q t w → conf ls t < 0 → 0 ≤ unit ls t → Q (t ++ [must (ls.getD (unit ls t).toNat []) t]) (w ++ [unit ls t])) (t w : List Int) (h : Q t w) : Q (on ls t w).1 (on ls t w).2.1 := by
  induction hm : room ls t using Nat.strongRecOn generalizing t w with
  | _ m ih =>
    rw [on]
    by_cases hc : 0 ≤ conf ls t
    · rw [if_pos hc]; exact h
    · rw [if_neg hc]
      by_cases hu : unit ls t < 0
      · rw [dif_pos hu]; exact h
      · rw [dif_neg hu]
        exact ih _ (by rw [← hm]; exact on_step hu) _ _ (hs t w h (by omega) (by omega)) rfl

theorem onV_end (ls : List (List Int)) (t w : List Int) : (0 ≤ conf ls (on ls t w).1 ∧ (on ls t w).2.2 = conf ls (on ls t w).1) ∨ (conf ls (on ls t w).1 < 0 ∧ unit ls (on ls t w).1 < 0 ∧ (on ls t w).2.2 = -1) := by
  induction hm : room ls t using Nat.strongRecOn generalizing t w with
  | _ m ih =>
    rw [on]
    by_cases hc : 0 ≤ conf ls t
    · rw [if_pos hc]; exact .inl ⟨hc, rfl⟩
    · rw [if_neg hc]
      by_cases hu : unit ls t < 0
      · rw [dif_pos hu]; exact .inr ⟨by show conf ls t < 0; omega, hu, rfl⟩
      · rw [dif_neg hu]
        exact ih _ (by rw [← hm]; exact on_step hu) _ _ rfl

theorem on_shut {ls : List (List Int)} (hz : Nz ls) {t w : List Int} (h : (on ls t w).2.2 < 0) : Shut ls (on ls t w).1 := by
  rcases onV_end ls t w with ⟨h1, h2⟩ | ⟨h1, h2, _⟩
  · omega
  · exact shut_of hz h1 h2

theorem on_ext (ls : List (List Int)) (t w : List Int) : ∃ e f, (on ls t w).1 = t ++ e ∧ (on ls t w).2.1 = w ++ f ∧ e.length = f.length ∧ ∀ x ∈ f, 0 ≤ x := by
  refine on_keep (ls := ls) (Q := fun t' w' => ∃ e f, t' = t ++ e ∧ w' = w ++ f ∧ e.length = f.length ∧ ∀ x ∈ f, 0 ≤ x) ?_ t w ⟨[], [], by simp⟩
  rintro t' w' ⟨e, f, rfl, rfl, h1, h2⟩ _ hu
  refine ⟨e ++ [_], f ++ [_], (List.append_assoc ..), (List.append_assoc ..), by simp [h1], fun x hx => ?_⟩
  rcases List.mem_append.1 hx with h3 | h3
  · exact h2 x h3
  · rw [List.mem_singleton.1 h3]; exact hu

theorem rup_falls {ls : List (List Int)} (hz : Nz ls) {c w : List Int} (h : Rup ls c) : 0 ≤ (on ls (c.map fun x => -x) w).2.2 := by
  refine Classical.byContradiction fun h1 => ?_
  obtain ⟨e, f, h2, _⟩ := on_ext ls (c.map fun x => -x) w
  refine h _ (on_shut hz (by omega : (on ls (c.map fun x => -x) w).2.2 < 0)) fun x hx => ?_
  rw [h2]
  exact List.mem_append_left _ (List.mem_map.2 ⟨x, hx, rfl⟩)

theorem litV_neg {a : List Bool} {x : Int} (h : x ≠ 0) : lit a (-x) = !lit a x := by
  unfold lit
  by_cases h1 : 0 < x
  · rw [if_neg (by omega), if_pos h1, Int.neg_neg]
  · rw [if_pos (by omega), if_neg h1]; simp

theorem sat_iff {a : List Bool} {c : List Int} : sat a c = true ↔ ∃ x ∈ c, lit a x = true := by simp [sat]
theorem all_iff {a : List Bool} {ls : List (List Int)} : all a ls = true ↔ ∀ c ∈ ls, ∃ x ∈ c, lit a x = true := by simp [all, sat]

theorem on_model {ls : List (List Int)} (hz : Nz ls) {a : List Bool} (ha : all a ls = true) {t w : List Int} (ht : ∀ x ∈ t, lit a x = true) : (on ls t w).2.2 = -1 ∧ ∀ x ∈ (on ls t w).1, lit a x = true := by
  rw [all_iff] at ha
  have hk := on_keep (ls := ls) (Q := fun t _ => ∀ x ∈ t, lit a x = true) (by
    intro t w ht hc hu x hx
    rcases List.mem_append.1 hx with h | h
    · exact ht x h
    rw [List.mem_singleton.1 h]
    obtain ⟨h1, h2⟩ := unit_mem (ls := ls) (t := t) (by omega)
    obtain ⟨h3, h4, h5, h6⟩ := must_spec h1
    obtain ⟨y, hy, hy2⟩ := ha _ h2
    unfold falseIn at h6
    simp only [List.all_eq_true, Bool.or_eq_true, decide_eq_true_eq] at h6
    rcases h6 y hy with h7 | h7
    · rw [← h7]; exact hy2
    · have := ht _ h7
      rw [litV_neg (hz _ h2 y hy), hy2] at this
      cases this) t w ht
  refine ⟨?_, hk⟩
  rcases onV_end ls t w with ⟨h1, h2⟩ | ⟨_, _, h2⟩
  · exfalso
    obtain ⟨h3, h4, h5⟩ := conf_at hz h1
    obtain ⟨y, hy, hy2⟩ := ha _ h4
    have := hk _ (h5 y hy)
    rw [litV_neg (hz _ h4 y hy), hy2] at this
    cases this
  · exact h2

theorem falls_sound {ls : List (List Int)} (hz : Nz ls) {c w : List Int} (hc : ∀ x ∈ c, x ≠ 0) (h : 0 ≤ (on ls (c.map fun x => -x) w).2.2) {a : List Bool} (ha : all a ls = true) : sat a c = true := by
  refine Classical.byContradiction fun h1 => ?_
  rw [sat_iff] at h1
  have := (on_model hz ha (t := c.map fun x => -x) (w := w) (by
    intro x hx
    obtain ⟨y, hy, rfl⟩ := List.mem_map.1 hx
    rw [litV_neg (hc y hy)]
    cases h2 : lit a y
    · rfl
    · exact absurd ⟨y, hy, h2⟩ h1)).1
  omega

theorem rup_sound {ls : List (List Int)} (hz : Nz ls) {c : List Int} (hc : ∀ x ∈ c, x ≠ 0) (h : Rup ls c) {a : List Bool} (ha : all a ls = true) : sat a c = true := falls_sound (w := []) hz hc (rup_falls hz h) ha
def place (L : List Int) (x : Int) : Int := idx (fun y => decide (y = x)) L

theorem place_at {L : List Int} {x : Int} (h : x ∈ L) : 0 ≤ place L x ∧ (place L x).toNat < L.length ∧ L.getD (place L x).toNat 0 = x := by
  have h0 : ¬ idx (fun y => decide (y = x)) L < 0 := fun h1 => by have := idxV_neg h1 x h; simp at this
  obtain ⟨h1, h2⟩ := idx_mem 0 h0
  refine ⟨by unfold place; omega, h1, of_decide_eq_true h2⟩

theorem place_lt {L : List Int} {x : Int} : x ∈ L ↔ 0 ≤ place L x := by
  refine ⟨fun h => (place_at h).1, fun h => ?_⟩
  obtain ⟨h1, h2⟩ := idx_mem (p := fun y => decide (y = x)) (l := L) 0 (by unfold place at h; omega)
  have h3 := getD_mem L _ 0 h1
  simp only [decide_eq_true_eq] at h2
  rw [h2] at h3
  exact h3
def Dist (L : List Int) : Prop := ∀ i, i < L.length → L.getD i 0 ∉ L.take i ∧ -L.getD i 0 ∉ L.take i

theorem mem_take {L : List Int} {i : Nat} {x : Int} : x ∈ L.take i ↔ ∃ j, j < i ∧ j < L.length ∧ L.getD j 0 = x := by
  rw [List.mem_take_iff_getElem]
  constructor
  · rintro ⟨j, hj, rfl⟩
    exact ⟨j, by omega, by omega, by simp [List.getD, List.getElem?_eq_getElem (show j < L.length by omega)]⟩
  · rintro ⟨j, h1, h2, rfl⟩
    exact ⟨j, by omega, by simp [List.getD, List.getElem?_eq_getElem h2]⟩

theorem memV_getD {L : List Int} {x : Int} : x ∈ L ↔ ∃ j, j < L.length ∧ L.getD j 0 = x := by
  have := mem_take (L := L) (i := L.length) (x := x)
  rw [List.take_of_length_le (Nat.le_refl _)] at this
  rw [this]
  exact ⟨fun ⟨j, _, h2, h3⟩ => ⟨j, h2, h3⟩, fun ⟨j, h2, h3⟩ => ⟨j, h2, h2, h3⟩⟩

theorem Dist.inj {L : List Int} (h : Dist L) {i j : Nat} (hi : i < L.length) (hj : j < L.length) (e : L.getD i 0 = L.getD j 0) : i = j := by
  rcases Nat.lt_trichotomy i j with h1 | h1 | h1
  · exact absurd (mem_take.2 ⟨i, h1, hi, e⟩) (h j hj).1
  · exact h1
  · exact absurd (mem_take.2 ⟨j, h1, hj, e.symm⟩) (h i hi).1

theorem Dist.neg {L : List Int} (h : Dist L) {x : Int} (hz : ∀ y ∈ L, y ≠ 0) (h1 : x ∈ L) : -x ∉ L := by
  intro h2
  obtain ⟨i, hi, rfl⟩ := memV_getD.1 h1
  obtain ⟨j, hj, e⟩ := memV_getD.1 h2
  rcases Nat.lt_trichotomy i j with h3 | h3 | h3
  · exact (h j hj).2 (mem_take.2 ⟨i, h3, hi, by omega⟩)
  · subst h3
    have := hz _ h1
    omega
  · exact (h i hi).2 (mem_take.2 ⟨j, h3, hj, e⟩)

theorem Dist.place {L : List Int} (h : Dist L) {i : Nat} (hi : i < L.length) : Sp.place L (L.getD i 0) = i := by
  obtain ⟨h1, h2, h3⟩ := place_at (getD_mem L i 0 hi)
  have := h.inj h2 hi h3
  omega

theorem Dist.snoc {L : List Int} (h : Dist L) {x : Int} (h1 : x ∉ L) (h2 : -x ∉ L) : Dist (L ++ [x]) := by
  intro i hi
  simp only [List.length_append, List.length_cons, List.length_nil] at hi
  by_cases e : i < L.length
  · rw [List.take_append_of_le_length (by omega)]
    have : (L ++ [x]).getD i 0 = L.getD i 0 := by simp [List.getD, List.getElem?_append_left e]
    rw [this]
    exact h i e
  · obtain rfl : i = L.length := by omega
    have : (L ++ [x]).getD L.length 0 = x := by simp [List.getD]
    rw [this, List.take_append_of_le_length (Nat.le_refl _), List.take_of_length_le (Nat.le_refl _)]
    exact ⟨h1, h2⟩

theorem Dist.take {L : List Int} (h : Dist L) (p : Nat) : Dist (L.take p) := by
  intro i hi
  simp only [List.length_take] at hi
  rw [getD_take L p i 0 (by omega), List.take_take, Nat.min_eq_left (by omega)]
  exact h i (by omega)
theorem nodup_lt : ∀ (n : Nat) (l : List Nat), l.Nodup → (∀ x ∈ l, x < n) → l.length ≤ n
  | 0, l, _, h => by
    cases l with
    | nil => simp
    | cons x l => exact absurd (h x (List.mem_cons_self ..)) (Nat.not_lt_zero _)
  | n + 1, l, hn, h => by
    have h1 : (l.filter fun x => !decide (x = n)).length ≤ n := nodup_lt n _ (hn.filter _) (fun x hx => by
      rw [List.mem_filter] at hx
      have := h x hx.1
      simp at hx
      omega)
    have h2 : (l.filter fun x => decide (x = n)).length ≤ 1 := by
      by_cases hm : n ∈ l
      · have h3 : (l.filter fun x => decide (x = n)).Nodup := hn.filter _
        have h4 : ∀ x ∈ l.filter fun x => decide (x = n), x = n := fun x hx => by simpa using (List.mem_filter.1 hx).2
        generalize l.filter (fun x => decide (x = n)) = m at h3 h4
        match m, h3, h4 with
        | [], _, _ => simp
        | [_], _, _ => simp
        | a :: b :: m, h3, h4 =>
          rw [List.nodup_cons] at h3
          have e1 := h4 a (List.mem_cons_self ..)
          have e2 := h4 b (List.mem_cons_of_mem _ (List.mem_cons_self ..))
          exact absurd (by rw [e1, ← e2]; exact List.mem_cons_self ..) h3.1
      · rw [List.filter_eq_nil_iff.2 (fun x hx => by simp; rintro rfl; exact hm hx)]
        simp
    have h3 : l.length = (l.filter fun x => decide (x = n)).length + (l.filter fun x => !decide (x = n)).length := by
      clear hn h h1 h2
      induction l with
      | nil => rfl
      | cons x l ih =>
        by_cases e : x = n
        · rw [List.filter_cons_of_pos (by simpa using e), List.filter_cons_of_neg (by simpa using e), List.length_cons, List.length_cons]; omega
        · rw [List.filter_cons_of_neg (by simpa using e), List.filter_cons_of_pos (by simpa using e), List.length_cons, List.length_cons]; omega
    omega

theorem Dist.len {L : List Int} {n : Nat} (h : Dist L) (hG : Good n L) : L.length ≤ n := by
  have h1 : (L.map fun x => (max x (-x)).toNat - 1).Nodup := by
    rw [List.nodup_iff_pairwise_ne, List.pairwise_map, List.pairwise_iff_getElem]
    intro i j hi hj hij e
    have hz : ∀ k (hk : k < L.length), L.getD k 0 = L[k] := fun k hk => by simp [List.getD, List.getElem?_eq_getElem hk]
    have h2 := h j hj
    rw [hz j hj] at h2
    have g1 := hG _ (List.getElem_mem hi)
    have g2 := hG _ (List.getElem_mem hj)
    have : L[i] = L[j] ∨ L[i] = -L[j] := by omega
    rcases this with e2 | e2
    · exact h2.1 (mem_take.2 ⟨i, hij, hi, by rw [hz i hi]; exact e2⟩)
    · exact h2.2 (mem_take.2 ⟨i, hij, hi, by rw [hz i hi]; exact e2⟩)
  have h2 := nodup_lt n _ h1 (fun y hy => by
    obtain ⟨x, hx, rfl⟩ := List.mem_map.1 hy
    have := hG x hx
    omega)
  simpa using h2
end Sp
end Go.Um

/- Plain laws: the search that learns, as a plain function, and what its trail keeps. No program in sight. No condition. -/

namespace Go.Um
namespace Sp
structure Sr where
  cl : List (List Int)
  L : List Int
  W : List Int
  lv : List Int
  k : Int
  st : List (List Int)

def Sr.bad (s : Sr) : Int := (on s.cl s.L s.W).2.2
def Sr.run (s : Sr) : Sr := { s with L := (on s.cl s.L s.W).1, W := (on s.cl s.L s.W).2.1, lv := s.lv ++ List.replicate ((on s.cl s.L s.W).1.length - s.lv.length) s.k }

def at_L (L : List Int) (l : Int) : Int := place L (-l)
def lvl (s : Sr) (l : Int) : Int := s.lv.getD (at_L s.L l).toNat 0
def scanS (s : Sr) (p : Int × Int) (l : Int) : Int × Int := if lvl s l = s.k then (if p.1 = 0 ∨ at_L s.L p.1 < at_L s.L l then l else p.1, p.2 + 1) else p
def scan (s : Sr) (c : List Int) : Int × Int := c.foldl (scanS s) (0, 0)
def addN (x : Int) (c : List Int) (l : Int) : List Int := if l ≠ x ∧ l ∉ c then c ++ [l] else c
def reso (c why : List Int) (x : Int) : List Int := why.foldl (addN (-x)) (c.filter fun l => !decide (l = x))
def why (s : Sr) (x : Int) : List Int := s.cl.getD (s.W.getD (at_L s.L x).toNat 0).toNat []

def anaF (s : Sr) : Nat → List Int → List Int
  | 0, c => c
  | m + 1, c => if (scan s c).2 < 2 then c else anaF s m (reso c (why s (scan s c).1) (scan s c).1)
def topL (s : Sr) (b l : Int) : Int := if lvl s l < s.k then max b (lvl s l) else b
def cut0 (s : Sr) (c : List Int) : List Int := c.filter fun l => !decide (lvl s l = 0)
def ana (s : Sr) (bad : Int) : List Int × Int :=
  (cut0 s (anaF s s.L.length (s.cl.getD bad.toNat [])), (cut0 s (anaF s s.L.length (s.cl.getD bad.toNat []))).foldl (topL s) 0)

def keep (lv : List Int) (b : Int) : Nat := (lv.takeWhile fun x => decide (x ≤ b)).length
def Sr.learn (s : Sr) (c : List Int) : Sr := { s with cl := s.cl ++ [c], st := s.st ++ [c] }
def Sr.back (s : Sr) (b : Int) : Sr := { s with L := s.L.take (keep s.lv b), W := s.W.take (keep s.lv b), lv := s.lv.take (keep s.lv b), k := b }

def openA (L asked : List Int) : Int := (asked.find? fun l => !decide (l ∈ L)).getD 0
def openV (L : List Int) (n : Nat) : Int := (((List.range n).map fun i : Nat => (i : Int) + 1).find? fun v => !decide (v ∈ L) && !decide (-v ∈ L)).getD 0
def nextL (ph : Bool) (L asked : List Int) (n : Nat) : Int := if openA L asked ≠ 0 then openA L asked else if openV L n = 0 then 0 else if ph = true then openV L n else -openV L n
def denied (L asked : List Int) : Int := (asked.find? fun l => decide (-l ∈ L)).getD 0
def Sr.next (s : Sr) (x : Int) : Sr := { s with L := s.L ++ [x], W := s.W ++ [-1], lv := s.lv ++ [s.k + 1], k := s.k + 1 }

def grow1 (x : Int) (sn : List Int) (y : Int) : List Int := if y ≠ x ∧ -y ∉ sn then sn ++ [-y] else sn
def coreF (s : Sr) : Nat → List Int → List Int → Nat → List Int
  | 0, out, _, _ => out
  | m + 1, out, sn, j => if j < sn.length then
      if s.W.getD (place s.L (sn.getD j 0)).toNat 0 < 0 then coreF s m (if sn.getD j 0 ∈ out then out else out ++ [sn.getD j 0]) sn (j + 1)
      else coreF s m out ((why s (-(sn.getD j 0))).foldl (grow1 (sn.getD j 0)) sn) (j + 1)
    else out
def coreC (s : Sr) (l : Int) : List Int := (coreF s (s.L.length + 1) [l] [-l] 0).mergeSort fun x y => decide (x ≤ y)
abbrev Ans := Int × List Bool × List (List Int) × List Int × Int
def noA (s : Sr) (core : List Int) (used : Int) : Ans := (2, [], s.st ++ [core.map fun x => -x], core, used)
def putB (a : List Bool) (l : Int) : List Bool := a.set (max l (-l) - 1).toNat (decide (0 < l))
def holds (n : Nat) (L : List Int) : List Bool := L.foldl putB (List.replicate n false)

def doF (n : Nat) (asked : List Int) (ph : Bool) (fuel : Int) : Nat → Sr → Int → Ans
  | 0, _, _ => (0, [], [], [], 0)
  | m + 1, s, used =>
    if 0 ≤ s.bad then
      if used = fuel then (3, [], [], [], used)
      else if s.run.k = 0 then noA s.run [] (used + 1)
      else doF n asked ph fuel m ((s.run.learn (ana s.run s.bad).1).back (ana s.run s.bad).2) (used + 1)
    else if denied s.run.L asked ≠ 0 then noA s.run (coreC s.run (denied s.run.L asked)) used
    else if nextL ph s.run.L asked n = 0 then (1, holds n s.run.L, [], [], used)
    else doF n asked ph fuel m (s.run.next (nextL ph s.run.L asked n)) used
def start (ls : List (List Int)) : Sr := ⟨ls, [], [], [], 0, []⟩
def doA (n : Nat) (ls : List (List Int)) (asked : List Int) (ph : Bool) (fuel : Int) : Ans := doF n asked ph fuel ((fuel.toNat + 1) * (n + 2) + 1) (start ls) 0

def Reason (cl : List (List Int)) (L : List Int) (w : Int) (i : Nat) : Prop := 0 ≤ w ∧ w.toNat < cl.length ∧ L.getD i 0 ∈ cl.getD w.toNat [] ∧ ∀ y ∈ cl.getD w.toNat [], y ≠ L.getD i 0 → -y ∈ L.take i

structure Inv (n : Nat) (s : Sr) : Prop where
  lw : s.W.length = s.L.length
  ll : s.lv.length = s.L.length
  k0 : 0 ≤ s.k
  gd : Good n s.L
  ds : Dist s.L
  cl : ∀ c ∈ s.cl, Good n c ∧ Cl c
  mo : ∀ i j, i ≤ j → j < s.L.length → s.lv.getD i 0 ≤ s.lv.getD j 0
  tp : ∀ i, i < s.L.length → 0 ≤ s.lv.getD i 0 ∧ s.lv.getD i 0 ≤ s.k
  re : ∀ i, i < s.L.length → (s.W.getD i 0 = -1 ∧ 1 ≤ s.lv.getD i 0 ∧ ∀ j, j < i → s.lv.getD j 0 < s.lv.getD i 0) ∨ (Reason s.cl s.L (s.W.getD i 0) i ∧ (s.lv.getD i 0 = 0 ∨ ∃ j, j < i ∧ s.lv.getD j 0 = s.lv.getD i 0))
  kk : s.k = 0 ∨ ∃ j, j < s.L.length ∧ s.lv.getD j 0 = s.k

theorem Inv.nz {n : Nat} {s : Sr} (h : Inv n s) : Nz s.cl := fun c hc x hx => ((h.cl c hc).1 x hx).1
theorem Inv.lz {n : Nat} {s : Sr} (h : Inv n s) : ∀ x ∈ s.L, x ≠ 0 := fun x hx => (h.gd x hx).1

theorem app_l {α : Type} {l m : List α} {z : α} {i : Nat} (h : i < l.length) : (l ++ m).getD i z = l.getD i z := by simp [List.getD, List.getElem?_append_left h]
theorem app_r {α : Type} {l : List α} {x z : α} {i : Nat} (h : i = l.length) : (l ++ [x]).getD i z = x := by subst h; simp [List.getD]
theorem take_l {α : Type} {l m : List α} {i : Nat} (h : i ≤ l.length) : (l ++ m).take i = l.take i := List.take_append_of_le_length h

theorem Inv.push {n : Nat} {s : Sr} (h : Inv n s) {x w k' : Int} (hx : x ∉ s.L) (hx2 : -x ∉ s.L) (hg : x ≠ 0 ∧ -(n : Int) ≤ x ∧ x ≤ n)
    (hw : (w = -1 ∧ k' = s.k + 1) ∨ (k' = s.k ∧ 0 ≤ w ∧ w.toNat < s.cl.length ∧ x ∈ s.cl.getD w.toNat [] ∧ ∀ y ∈ s.cl.getD w.toNat [], y ≠ x → -y ∈ s.L)) :
    Inv n { s with L := s.L ++ [x], W := s.W ++ [w], lv := s.lv ++ [k'], k := k' } := by
  have hll := h.ll
  have hlw := h.lw
  have hkk : s.k ≤ k' := by omega
  have old : ∀ i, i < s.L.length → (s.lv ++ [k']).getD i 0 = s.lv.getD i 0 := fun i hi => app_l (by omega)
  have new : (s.lv ++ [k']).getD s.L.length 0 = k' := app_r (by omega)
  refine ⟨by simp [h.lw], by simp [h.ll], by have := h.k0; show 0 ≤ k'; omega, ?_, h.ds.snoc hx hx2, h.cl, ?_, ?_, ?_, ?_⟩
  · intro y hy
    rcases List.mem_append.1 hy with h1 | h1
    · exact h.gd y h1
    · rw [List.mem_singleton.1 h1]; exact hg
  · intro i j hij hj
    simp only [List.length_append, List.length_cons, List.length_nil] at hj
    show (s.lv ++ [k']).getD i 0 ≤ (s.lv ++ [k']).getD j 0
    by_cases h1 : j < s.L.length
    · rw [old j h1, old i (by omega)]; exact h.mo i j hij h1
    · obtain rfl : j = s.L.length := by omega
      rw [new]
      by_cases h2 : i < s.L.length
      · rw [old i h2]; have := (h.tp i h2).2; omega
      · obtain rfl : i = s.L.length := by omega
        rw [new]; exact Int.le_refl _
  · intro i hi
    simp only [List.length_append, List.length_cons, List.length_nil] at hi
    show 0 ≤ (s.lv ++ [k']).getD i 0 ∧ (s.lv ++ [k']).getD i 0 ≤ k'
    by_cases h1 : i < s.L.length
    · rw [old i h1]; have := h.tp i h1; omega
    · obtain rfl : i = s.L.length := by omega
      rw [new]; have := h.k0; omega
  · intro i hi
    simp only [List.length_append, List.length_cons, List.length_nil] at hi
    show ((s.W ++ [w]).getD i 0 = -1 ∧ 1 ≤ (s.lv ++ [k']).getD i 0 ∧ ∀ j, j < i → (s.lv ++ [k']).getD j 0 < (s.lv ++ [k']).getD i 0) ∨ (Reason s.cl (s.L ++ [x]) ((s.W ++ [w]).getD i 0) i ∧ ((s.lv ++ [k']).getD i 0 = 0 ∨ ∃ j, j < i ∧ (s.lv ++ [k']).getD j 0 = (s.lv ++ [k']).getD i 0))
    unfold Reason
    by_cases h1 : i < s.L.length
    · rw [old i h1, app_l (l := s.W) (by omega), app_l (l := s.L) h1, take_l (l := s.L) (by omega)]
      rcases h.re i h1 with ⟨a, b, c⟩ | ⟨a, b⟩
      · exact .inl ⟨a, b, fun j hj => by rw [old j (by omega)]; exact c j hj⟩
      · exact .inr ⟨a, b.imp id (fun ⟨j, hj, e⟩ => ⟨j, hj, by rw [old j (by omega)]; exact e⟩)⟩
    · obtain rfl : i = s.L.length := by omega
      rw [new, app_r (l := s.W) (by omega), app_r (l := s.L) rfl, take_l (l := s.L) (Nat.le_refl _), List.take_of_length_le (Nat.le_refl _)]
      rcases hw with ⟨a, b⟩ | ⟨a, b⟩
      · have := h.k0
        exact .inl ⟨a, by omega, fun j hj => by rw [old j hj]; have := (h.tp j hj).2; omega⟩
      · subst a
        refine .inr ⟨b, ?_⟩
        rcases h.kk with h2 | ⟨j, hj, e⟩
        · exact .inl h2
        · exact .inr ⟨j, hj, by rw [old j hj]; exact e⟩
  · exact .inr ⟨s.L.length, by simp, new⟩

theorem Inv.run {n : Nat} {s : Sr} (h : Inv n s) : Inv n s.run := by
  have hk := on_keep (ls := s.cl) (Q := fun t w => s.L.length ≤ t.length ∧ Inv n { s with L := t, W := w, lv := s.lv ++ List.replicate (t.length - s.lv.length) s.k }) (by
    rintro t w ⟨hl, hi⟩ hc hu
    obtain ⟨h1, h2⟩ := unit_mem (ls := s.cl) (t := t) (by omega)
    obtain ⟨h3, h4, h5, h6⟩ := must_spec h1
    refine ⟨by simp; omega, ?_⟩
    have hz : ¬ idx (fun l => !decide (must l t = 0)) s.cl < 0 := by unfold unit at hu; omega
    have e : s.lv ++ List.replicate ((t ++ [must (s.cl.getD (unit s.cl t).toNat []) t]).length - s.lv.length) s.k = (s.lv ++ List.replicate (t.length - s.lv.length) s.k) ++ [s.k] := by
      have hll := h.ll
      rw [List.length_append, List.append_assoc, ← List.replicate_succ', show t.length + [must (s.cl.getD (unit s.cl t).toNat []) t].length - s.lv.length = t.length - s.lv.length + 1 by simp; omega]
    rw [e]
    refine hi.push (x := must (s.cl.getD (unit s.cl t).toNat []) t) (w := unit s.cl t) (k' := s.k) h4 h5 ((h.cl _ h2).1 _ h3) (.inr ⟨rfl, hu, (idx_mem [] hz).1, h3, fun y hy hne => ?_⟩)
    unfold falseIn at h6
    simp only [List.all_eq_true, Bool.or_eq_true, decide_eq_true_eq] at h6
    exact (h6 y hy).resolve_left hne) s.L s.W ⟨Nat.le_refl _, by rw [h.ll, Nat.sub_self, List.replicate_zero, List.append_nil]; exact h⟩
  exact hk.2

theorem Inv.next {n : Nat} {s : Sr} (h : Inv n s) {x : Int} (hx : x ∉ s.L) (hx2 : -x ∉ s.L) (hg : x ≠ 0 ∧ -(n : Int) ≤ x ∧ x ≤ n) : Inv n (s.next x) := h.push hx hx2 hg (.inl ⟨rfl, rfl⟩)

theorem Inv.start {n : Nat} {ls : List (List Int)} (h : ∀ c ∈ ls, Good n c ∧ Cl c) : Inv n (start ls) where
  lw := rfl
  ll := rfl
  k0 := Int.le_refl _
  gd := fun x hx => by cases hx
  ds := fun i hi => absurd hi (Nat.not_lt_zero _)
  cl := h
  mo := fun i j _ hj => absurd hj (Nat.not_lt_zero _)
  tp := fun i hi => absurd hi (Nat.not_lt_zero _)
  re := fun i hi => absurd hi (Nat.not_lt_zero _)
  kk := .inl rfl
def Low (n : Nat) (s : Sr) (m : Nat) (c : List Int) : Prop := c.Nodup ∧ ∀ l ∈ c, -l ∈ s.L ∧ at_L s.L l < m

theorem Low.at_ {n : Nat} {s : Sr} {m : Nat} {c : List Int} (h : Low n s m c) {l : Int} (hl : l ∈ c) : 0 ≤ at_L s.L l ∧ (at_L s.L l).toNat < s.L.length ∧ s.L.getD (at_L s.L l).toNat 0 = -l := place_at (h.2 l hl).1

theorem scan_eq {s : Sr} : ∀ (c : List Int) (p : Int × Int), (∀ l ∈ c, l ≠ 0) → ((c.foldl (scanS s) p).2 = p.2 + ((c.filter fun l => decide (lvl s l = s.k)).length : Int)) ∧
    (((c.foldl (scanS s) p).1 = p.1 ∧ ∀ l ∈ c, lvl s l = s.k → p.1 ≠ 0 ∧ at_L s.L l ≤ at_L s.L p.1) ∨ ((c.foldl (scanS s) p).1 ∈ c ∧ lvl s (c.foldl (scanS s) p).1 = s.k ∧ (∀ l ∈ c, lvl s l = s.k → at_L s.L l ≤ at_L s.L (c.foldl (scanS s) p).1) ∧ (p.1 ≠ 0 → at_L s.L p.1 ≤ at_L s.L (c.foldl (scanS s) p).1)))
  | [], p, _ => ⟨by simp, .inl ⟨rfl, fun l hl => by cases hl⟩⟩
  | x :: c, p, hz => by
    have hx := hz x (List.mem_cons_self ..)
    obtain ⟨h1, h2⟩ := scan_eq c (scanS s p x) (fun l hl => hz l (List.mem_cons_of_mem _ hl))
    rw [List.foldl_cons]
    by_cases e : lvl s x = s.k
    · have e1 : scanS s p x = (if p.1 = 0 ∨ at_L s.L p.1 < at_L s.L x then x else p.1, p.2 + 1) := if_pos e
      refine ⟨by rw [h1, e1, List.filter_cons_of_pos (by simpa using e)]; simp; omega, ?_⟩
      by_cases e2 : p.1 = 0 ∨ at_L s.L p.1 < at_L s.L x
      · have e3 : (scanS s p x).1 = x := by rw [e1, if_pos e2]
        rw [e3] at h2
        right
        rcases h2 with ⟨a, b⟩ | ⟨a, b, c', d⟩
        · rw [a]
          refine ⟨List.mem_cons_self .., e, fun l hl hk => ?_, fun h => by omega⟩
          rcases List.mem_cons.1 hl with rfl | hl
          · exact Int.le_refl _
          · exact (b l hl hk).2
        · refine ⟨List.mem_cons_of_mem _ a, b, fun l hl hk => ?_, fun h => by have := d hx; omega⟩
          rcases List.mem_cons.1 hl with rfl | hl
          · exact d hx
          · exact c' l hl hk
      · have e3 : (scanS s p x).1 = p.1 := by rw [e1, if_neg e2]
        rw [e3] at h2
        rcases h2 with ⟨a, b⟩ | ⟨a, b, c', d⟩
        · left
          refine ⟨a, fun l hl hk => ?_⟩
          rcases List.mem_cons.1 hl with rfl | hl
          · omega
          · exact b l hl hk
        · right
          refine ⟨List.mem_cons_of_mem _ a, b, fun l hl hk => ?_, d⟩
          rcases List.mem_cons.1 hl with rfl | hl
          · have := d (by omega); omega
          · exact c' l hl hk
    · have e1 : scanS s p x = p := if_neg e
      rw [e1] at h1 h2 ⊢
      refine ⟨by rw [h1, List.filter_cons_of_neg (by simpa using e)], ?_⟩
      rcases h2 with ⟨a, b⟩ | ⟨a, b, c', d⟩
      · left
        refine ⟨a, fun l hl hk => ?_⟩
        rcases List.mem_cons.1 hl with rfl | hl
        · exact absurd hk e
        · exact b l hl hk
      · right
        refine ⟨List.mem_cons_of_mem _ a, b, fun l hl hk => ?_, d⟩
        rcases List.mem_cons.1 hl with rfl | hl
        · exact absurd hk e
        · exact c' l hl hk

theorem scan_count {s : Sr} {c : List Int} (hz : ∀ l ∈ c, l ≠ 0) : (scan s c).2 = ((c.filter fun l => decide (lvl s l = s.k)).length : Int) := by
  have := (scan_eq (s := s) c (0, 0) hz).1
  unfold scan
  rw [this]
  simp

theorem scan_top {s : Sr} {c : List Int} (hz : ∀ l ∈ c, l ≠ 0) (h : 1 ≤ (scan s c).2) : (scan s c).1 ∈ c ∧ lvl s (scan s c).1 = s.k ∧ ∀ l ∈ c, lvl s l = s.k → at_L s.L l ≤ at_L s.L (scan s c).1 := by
  rcases (scan_eq (s := s) c (0, 0) hz).2 with ⟨a, b⟩ | ⟨a, b, c', d⟩
  · exfalso
    rw [scan_count hz] at h
    have : 0 < (c.filter fun l => decide (lvl s l = s.k)).length := by omega
    obtain ⟨l, hl⟩ := List.exists_mem_of_length_pos this
    rw [List.mem_filter] at hl
    exact absurd rfl (b l hl.1 (by simpa using hl.2)).1
  · exact ⟨a, b, c'⟩

theorem addN_mem {x : Int} : ∀ (w c : List Int) (y : Int), y ∈ w.foldl (addN x) c ↔ y ∈ c ∨ (y ∈ w ∧ y ≠ x)
  | [], c, y => by simp
  | l :: w, c, y => by
    rw [List.foldl_cons, addN_mem w _ y]
    unfold addN
    by_cases h : l ≠ x ∧ l ∉ c
    · rw [if_pos h]
      simp only [List.mem_append, List.mem_cons, List.not_mem_nil, or_false]
      constructor
      · rintro ((h1 | rfl) | ⟨h1, h2⟩)
        · exact .inl h1
        · exact .inr ⟨.inl rfl, h.1⟩
        · exact .inr ⟨.inr h1, h2⟩
      · rintro (h1 | ⟨rfl | h1, h2⟩)
        · exact .inl (.inl h1)
        · exact .inl (.inr rfl)
        · exact .inr ⟨h1, h2⟩
    · rw [if_neg h]
      simp only [List.mem_cons]
      constructor
      · rintro (h1 | ⟨h1, h2⟩)
        · exact .inl h1
        · exact .inr ⟨.inr h1, h2⟩
      · rintro (h1 | ⟨rfl | h1, h2⟩)
        · exact .inl h1
        · exact .inl (Classical.byContradiction fun h3 => h ⟨h2, h3⟩)
        · exact .inr ⟨h1, h2⟩

theorem nodup_snoc {l : List Int} {x : Int} (h : l.Nodup) (hx : x ∉ l) : (l ++ [x]).Nodup := by
  rw [List.nodup_append]
  refine ⟨h, by simp, fun a ha b hb => ?_⟩
  rw [List.mem_singleton.1 hb]
  rintro rfl
  exact hx ha

theorem addN_nodup {x : Int} : ∀ (w c : List Int), c.Nodup → (w.foldl (addN x) c).Nodup
  | [], c, h => h
  | l :: w, c, h => by
    rw [List.foldl_cons]
    refine addN_nodup w _ ?_
    unfold addN
    by_cases h1 : l ≠ x ∧ l ∉ c
    · rw [if_pos h1]; exact nodup_snoc h h1.2
    · rw [if_neg h1]; exact h

theorem reso_mem {c w : List Int} {x y : Int} : y ∈ reso c w x ↔ (y ∈ c ∧ y ≠ x) ∨ (y ∈ w ∧ y ≠ -x) := by
  unfold reso
  rw [addN_mem, List.mem_filter]
  simp
theorem top_why {n : Nat} {s : Sr} (h : Inv n s) {m : Nat} {c : List Int} (hc : Low n s m c) (h2 : 2 ≤ (scan s c).2) :
    Reason s.cl s.L (s.W.getD (at_L s.L (scan s c).1).toNat 0) (at_L s.L (scan s c).1).toNat := by
  have hz : ∀ l ∈ c, l ≠ 0 := fun l hl e => by
    have := h.lz _ (hc.2 l hl).1
    omega
  obtain ⟨t1, t2, t3⟩ := scan_top (s := s) hz (by omega)
  obtain ⟨p1, p2, p3⟩ := hc.at_ t1
  have hcount := scan_count (s := s) hz
  have hn : (c.filter fun l => decide (lvl s l = s.k)).Nodup := hc.1.filter _
  obtain ⟨l2, hl2, hne⟩ : ∃ l2 ∈ c.filter (fun l => decide (lvl s l = s.k)), l2 ≠ (scan s c).1 := by
    have hlen : 2 ≤ (c.filter fun l => decide (lvl s l = s.k)).length := by omega
    generalize c.filter (fun l => decide (lvl s l = s.k)) = f at hn hlen
    match f, hn, hlen with
    | [], _, hlen => simp at hlen
    | [_], _, hlen => simp at hlen
    | a :: b :: f, hn, _ =>
      by_cases e : a = (scan s c).1
      · refine ⟨b, by simp, fun e2 => ?_⟩
        rw [List.nodup_cons] at hn
        exact hn.1 (by rw [e, ← e2]; exact List.mem_cons_self ..)
      · exact ⟨a, List.mem_cons_self .., e⟩
  rw [List.mem_filter] at hl2
  obtain ⟨q1, q2, q3⟩ := hc.at_ hl2.1
  have hk2 : lvl s l2 = s.k := by simpa using hl2.2
  have hle := t3 l2 hl2.1 hk2
  have hlt : (at_L s.L l2).toNat < (at_L s.L (scan s c).1).toNat := by
    by_cases e : at_L s.L l2 = at_L s.L (scan s c).1
    · rw [e, p3] at q3
      exact absurd (by omega) hne
    · omega
  rcases h.re _ p2 with ⟨_, _, h3⟩ | ⟨h3, _⟩
  · have := h3 _ hlt
    unfold lvl at hk2 t2
    omega
  · exact h3

theorem Low.step {n : Nat} {s : Sr} (h : Inv n s) {m : Nat} {c : List Int} (hc : Low n s (m + 1) c) (h2 : 2 ≤ (scan s c).2) : Low n s m (reso c (why s (scan s c).1) (scan s c).1) := by
  have hz : ∀ l ∈ c, l ≠ 0 := fun l hl e => by
    have := h.lz _ (hc.2 l hl).1
    omega
  obtain ⟨t1, t2, t3⟩ := scan_top (s := s) hz (by omega)
  obtain ⟨p1, p2, p3⟩ := hc.at_ t1
  obtain ⟨w1, w2, w3, w4⟩ := top_why h hc h2
  refine ⟨addN_nodup _ _ (hc.1.filter _), fun l hl => ?_⟩
  rcases reso_mem.1 hl with ⟨h3, h4⟩ | ⟨h3, h4⟩
  · refine ⟨(hc.2 l h3).1, ?_⟩
    obtain ⟨q1, q2, q3⟩ := hc.at_ h3
    have hm := (hc.2 _ t1).2
    have hne : at_L s.L l ≠ at_L s.L (scan s c).1 := fun e => by
      rw [e, p3] at q3
      exact h4 (by omega)
    by_cases hk : lvl s l = s.k
    · have := t3 l h3 hk
      omega
    · by_cases hlt : at_L s.L l < at_L s.L (scan s c).1
      · omega
      · have h5 := h.mo (at_L s.L (scan s c).1).toNat (at_L s.L l).toNat (by omega) q2
        have h6 := (h.tp _ q2).2
        unfold lvl at hk t2
        omega
  · have h5 := w4 l h3 (by rw [p3]; omega)
    have hm := (hc.2 _ t1).2
    obtain ⟨j, j1, j2, j3⟩ := mem_take.1 h5
    have hmem : -l ∈ s.L := memV_getD.2 ⟨j, j2, j3⟩
    refine ⟨hmem, ?_⟩
    have : at_L s.L l = j := by
      unfold at_L
      rw [← j3]
      exact h.ds.place j2
    omega

theorem Low.ana {n : Nat} {s : Sr} (h : Inv n s) : ∀ {m : Nat} {c : List Int}, Low n s m c → ∃ m', Low n s m' (anaF s m c) ∧ (scan s (anaF s m c)).2 < 2
  | 0, c, hc => by
    refine ⟨0, hc, ?_⟩
    have : c = [] := by
      cases c with
      | nil => rfl
      | cons x c =>
        have h1 := (hc.2 x (List.mem_cons_self ..)).2
        have h2 := (hc.at_ (List.mem_cons_self ..)).1
        omega
    subst this
    show (0 : Int) < 2
    decide
  | m + 1, c, hc => by
    rw [anaF]
    by_cases h2 : (scan s c).2 < 2
    · rw [if_pos h2]; exact ⟨_, hc, h2⟩
    · rw [if_neg h2]
      exact Low.ana h (hc.step h (by omega))
theorem Low.bad {n : Nat} {s : Sr} (h : Inv n s) {c : List Int} (hc : c ∈ s.cl) (hf : ∀ x ∈ c, -x ∈ s.L) : Low n s s.L.length c := by
  refine ⟨(h.cl c hc).2.1, fun l hl => ⟨hf l hl, ?_⟩⟩
  obtain ⟨h1, h2, h3⟩ := place_at (hf l hl)
  unfold at_L
  omega
theorem Inv.zero {n : Nat} {s : Sr} (h : Inv n s) {T : List Int} (hT : Shut s.cl T) : ∀ i, i < s.L.length → s.lv.getD i 0 = 0 → s.L.getD i 0 ∈ T := by
  intro i
  induction i using Nat.strongRecOn with
  | _ i ih =>
    intro hi h0
    rcases h.re i hi with ⟨_, h1, _⟩ | ⟨⟨h1, h2, h3, h4⟩, _⟩
    · omega
    · refine (hT _ (getD_mem _ _ _ h2)).2 _ h3 fun y hy hne => ?_
      obtain ⟨j, j1, j2, j3⟩ := mem_take.1 (h4 y hy hne)
      rw [← j3]
      have h5 := h.mo j i (by omega) hi
      have h6 := (h.tp j j2).1
      exact ih j j1 j2 (by omega)

theorem ana_rup {n : Nat} {s : Sr} (h : Inv n s) {T : List Int} (hT : Shut s.cl T) : ∀ {m : Nat} {c : List Int}, Low n s m c → ((∀ x ∈ c, -x ∈ T) → False) → (∀ x ∈ anaF s m c, -x ∈ T) → False
  | 0, c, _, h1, h2 => h1 h2
  | m + 1, c, hc, h1, h2 => by
    rw [anaF] at h2
    by_cases h3 : (scan s c).2 < 2
    · rw [if_pos h3] at h2; exact h1 h2
    · rw [if_neg h3] at h2
      refine ana_rup h hT (hc.step h (by omega)) (fun h4 => h1 fun x hx => ?_) h2
      have hz : ∀ l ∈ c, l ≠ 0 := fun l hl e => by
        have := h.lz _ (hc.2 l hl).1
        omega
      obtain ⟨t1, t2, t3⟩ := scan_top (s := s) hz (by omega)
      obtain ⟨p1, p2, p3⟩ := hc.at_ t1
      obtain ⟨w1, w2, w3, w4⟩ := top_why h hc (by omega)
      by_cases e : x = (scan s c).1
      · subst e
        rw [← p3]
        refine (hT _ (getD_mem _ _ _ w2)).2 _ w3 fun y hy hne => ?_
        exact h4 y (reso_mem.2 (.inr ⟨hy, by rw [← p3]; exact hne⟩))
      · exact h4 x (reso_mem.2 (.inl ⟨hx, e⟩))

theorem learnt_rup {n : Nat} {s : Sr} (h : Inv n s) {bad : Int} (hb : bad.toNat < s.cl.length) (hf : ∀ x ∈ s.cl.getD bad.toNat [], -x ∈ s.L) : Rup s.cl (ana s bad).1 := by
  intro T hT h1
  have hm := getD_mem s.cl bad.toNat [] hb
  have hlow := Low.bad h hm hf
  obtain ⟨m', hlow', _⟩ := hlow.ana h
  refine ana_rup h hT hlow (fun h2 => ?_) fun x hx => ?_
  · obtain ⟨x, hx, hx2⟩ := (hT _ hm).1
    exact hx2 (h2 x hx)
  · by_cases e : lvl s x = 0
    · obtain ⟨p1, p2, p3⟩ := hlow'.at_ hx
      rw [← p3]
      exact h.zero hT _ p2 e
    · exact h1 x (List.mem_filter.2 ⟨hx, by simpa using e⟩)

theorem topL_eq {s : Sr} : ∀ (c : List Int) (b : Int), (c.foldl (topL s) b = b ∨ ∃ l ∈ c, lvl s l < s.k ∧ c.foldl (topL s) b = lvl s l) ∧ b ≤ c.foldl (topL s) b ∧ ∀ l ∈ c, lvl s l < s.k → lvl s l ≤ c.foldl (topL s) b
  | [], b => ⟨.inl rfl, Int.le_refl _, fun l hl => by cases hl⟩
  | x :: c, b => by
    rw [List.foldl_cons]
    obtain ⟨h1, h2, h3⟩ := topL_eq c (topL s b x)
    have hle : b ≤ topL s b x := by
      unfold topL
      split
      · exact Int.le_max_left ..
      · exact Int.le_refl _
    refine ⟨?_, Int.le_trans hle h2, fun l hl hk => ?_⟩
    · rcases h1 with h1 | ⟨l, hl, h4, h5⟩
      · rw [h1]
        by_cases e : lvl s x < s.k
        · by_cases e2 : b ≤ lvl s x
          · exact .inr ⟨x, List.mem_cons_self .., e, by unfold topL; rw [if_pos e]; omega⟩
          · exact .inl (by unfold topL; rw [if_pos e]; omega)
        · exact .inl (by unfold topL; rw [if_neg e])
      · exact .inr ⟨l, List.mem_cons_of_mem _ hl, h4, h5⟩
    · rcases List.mem_cons.1 hl with rfl | hl
      · have : lvl s l ≤ topL s b l := by unfold topL; rw [if_pos hk]; omega
        omega
      · exact h3 l hl hk

theorem keep_le {lv : List Int} {b : Int} : keep lv b ≤ lv.length := by
  unfold keep
  exact (List.takeWhile_prefix _).length_le
theorem keep_in {b : Int} : ∀ {lv : List Int} {i : Nat}, i < keep lv b → lv.getD i 0 ≤ b
  | [], i, h => by simp [keep] at h
  | x :: lv, i, h => by
    unfold keep at h
    by_cases e : x ≤ b
    · rw [List.takeWhile_cons_of_pos (by simpa using e)] at h
      cases i with
      | zero => simpa using e
      | succ i => simpa using keep_in (lv := lv) (i := i) (by unfold keep; simpa using h)
    · rw [List.takeWhile_cons_of_neg (by simpa using e)] at h
      simp at h
theorem keep_out {b : Int} : ∀ {lv : List Int}, keep lv b < lv.length → b < lv.getD (keep lv b) 0
  | [], h => by simp at h
  | x :: lv, h => by
    unfold keep at h ⊢
    by_cases e : x ≤ b
    · rw [List.takeWhile_cons_of_pos (by simpa using e)] at h ⊢
      have := keep_out (lv := lv) (b := b) (by unfold keep; simpa using h)
      unfold keep at this
      simpa using this
    · rw [List.takeWhile_cons_of_neg (by simpa using e)]
      simp; omega

theorem Inv.keep {n : Nat} {s : Sr} (h : Inv n s) {b : Int} {i : Nat} (hi : i < s.L.length) : i < Sp.keep s.lv b ↔ s.lv.getD i 0 ≤ b := by
  refine ⟨keep_in, fun h1 => Classical.byContradiction fun h2 => ?_⟩
  have h3 := keep_out (lv := s.lv) (b := b) (by rw [h.ll]; omega)
  have h4 := h.mo (Sp.keep s.lv b) i (by omega) hi
  omega

theorem Inv.learn {n : Nat} {s : Sr} (h : Inv n s) {c : List Int} (hc : Good n c ∧ Cl c) : Inv n (s.learn c) where
  lw := h.lw
  ll := h.ll
  k0 := h.k0
  gd := h.gd
  ds := h.ds
  cl := fun d hd => by
    rcases List.mem_append.1 hd with h1 | h1
    · exact h.cl d h1
    · rw [List.mem_singleton.1 h1]; exact hc
  mo := h.mo
  tp := h.tp
  re := fun i hi => (h.re i hi).imp id fun ⟨⟨a, b, c', d⟩, e⟩ => by
    refine ⟨⟨a, ?_, ?_⟩, e⟩
    · show _ < (s.cl ++ [c]).length
      rw [List.length_append]
      exact Nat.lt_of_lt_of_le b (Nat.le_add_right _ _)
    · have e2 : (s.learn c).cl.getD ((s.learn c).W.getD i 0).toNat [] = s.cl.getD (s.W.getD i 0).toNat [] := app_l (l := s.cl) b
      rw [e2]
      exact ⟨c', d⟩
  kk := h.kk

theorem Inv.back {n : Nat} {s : Sr} (h : Inv n s) {b : Int} (hb : 0 ≤ b) (hbk : b = 0 ∨ ∃ j, j < s.L.length ∧ s.lv.getD j 0 = b) : Inv n (s.back b) := by
  have hp : Sp.keep s.lv b ≤ s.L.length := by rw [← h.ll]; exact keep_le
  have hlen : (s.L.take (Sp.keep s.lv b)).length = Sp.keep s.lv b := by simp; omega
  refine ⟨by simp [Sr.back, h.lw], by simp [Sr.back, h.ll], hb, fun x hx => h.gd x (List.mem_of_mem_take hx), h.ds.take _, h.cl, ?_, ?_, ?_, ?_⟩
  · intro i j hij hj
    have hj' : j < Sp.keep s.lv b := by rw [← hlen]; exact hj
    show (s.lv.take _).getD i 0 ≤ (s.lv.take _).getD j 0
    rw [getD_take _ _ _ _ hj', getD_take _ _ _ _ (by omega)]
    exact h.mo i j hij (by omega)
  · intro i hi
    have hi' : i < Sp.keep s.lv b := by rw [← hlen]; exact hi
    show 0 ≤ (s.lv.take _).getD i 0 ∧ (s.lv.take _).getD i 0 ≤ b
    rw [getD_take _ _ _ _ hi']
    exact ⟨(h.tp i (by omega)).1, keep_in hi'⟩
  · intro i hi
    have hi' : i < Sp.keep s.lv b := by rw [← hlen]; exact hi
    show ((s.W.take _).getD i 0 = -1 ∧ 1 ≤ (s.lv.take _).getD i 0 ∧ ∀ j, j < i → (s.lv.take _).getD j 0 < (s.lv.take _).getD i 0) ∨ (Reason s.cl (s.L.take _) ((s.W.take _).getD i 0) i ∧ ((s.lv.take _).getD i 0 = 0 ∨ ∃ j, j < i ∧ (s.lv.take _).getD j 0 = (s.lv.take _).getD i 0))
    unfold Reason
    rw [getD_take _ _ _ _ hi', getD_take _ _ _ _ hi', getD_take _ _ _ _ hi', List.take_take, Nat.min_eq_left (by omega)]
    rcases h.re i (by omega) with ⟨a, b', c⟩ | ⟨a, b'⟩
    · exact .inl ⟨a, b', fun j hj => by rw [getD_take _ _ _ _ (by omega)]; exact c j hj⟩
    · exact .inr ⟨a, b'.imp id fun ⟨j, hj, e⟩ => ⟨j, hj, by rw [getD_take _ _ _ _ (by omega)]; exact e⟩⟩
  · rcases hbk with h1 | ⟨j, hj, e⟩
    · exact .inl h1
    · have hj' : j < Sp.keep s.lv b := (h.keep hj).2 (by omega)
      exact .inr ⟨j, by show j < (s.L.take _).length; rw [hlen]; exact hj', by show (s.lv.take _).getD j 0 = b; rw [getD_take _ _ _ _ hj']; exact e⟩
theorem ana_ok {n : Nat} {s : Sr} (h : Inv n s) {bad : Int} (hb : bad.toNat < s.cl.length) (hf : ∀ x ∈ s.cl.getD bad.toNat [], -x ∈ s.L) :
    (Good n (ana s bad).1 ∧ Cl (ana s bad).1) ∧ (∀ x ∈ (ana s bad).1, -x ∈ s.L ∧ lvl s x ≠ 0) ∧ (0 ≤ (ana s bad).2 ∧ ((ana s bad).2 = 0 ∨ ∃ l ∈ (ana s bad).1, lvl s l < s.k ∧ (ana s bad).2 = lvl s l)) ∧ (∀ l ∈ (ana s bad).1, lvl s l < s.k → lvl s l ≤ (ana s bad).2) ∧
    (((ana s bad).1.filter fun l => decide (lvl s l = s.k)).length < 2) := by
  have hm := getD_mem s.cl bad.toNat [] hb
  have hlow := Low.bad h hm hf
  obtain ⟨m', hl2, hc2⟩ := hlow.ana h
  have hin : ∀ x ∈ (ana s bad).1, x ∈ anaF s s.L.length (s.cl.getD bad.toNat []) ∧ lvl s x ≠ 0 := fun x hx => by
    have := List.mem_filter.1 hx
    exact ⟨this.1, by simpa using this.2⟩
  have hfl : ∀ x ∈ (ana s bad).1, -x ∈ s.L := fun x hx => (hl2.2 x (hin x hx).1).1
  obtain ⟨g1, g2, g3⟩ := topL_eq (s := s) (ana s bad).1 0
  refine ⟨⟨fun x hx => ?_, hl2.1.filter _, fun x hx => ⟨?_, fun h2 => ?_⟩⟩, fun x hx => ⟨hfl x hx, (hin x hx).2⟩, ⟨g2, g1⟩, g3, ?_⟩
  · have := h.gd _ (hfl x hx)
    omega
  · have := h.lz _ (hfl x hx)
    omega
  · exact h.ds.neg h.lz (hfl x hx) (hfl _ h2)
  · have hz : ∀ l ∈ anaF s s.L.length (s.cl.getD bad.toNat []), l ≠ 0 := fun l hl e => by
      have := h.lz _ (hl2.2 l hl).1
      omega
    rw [scan_count hz] at hc2
    have : ((ana s bad).1.filter fun l => decide (lvl s l = s.k)).length ≤ ((anaF s s.L.length (s.cl.getD bad.toNat [])).filter fun l => decide (lvl s l = s.k)).length := by
      unfold ana cut0
      simp only [List.filter_filter]
      refine Nat.le_trans ?_ (Nat.le_refl _)
      rw [← List.filter_filter]
      have e : ((anaF s s.L.length (s.cl.getD bad.toNat [])).filter fun l => !decide (lvl s l = 0)).filter (fun l => decide (lvl s l = s.k)) = ((anaF s s.L.length (s.cl.getD bad.toNat [])).filter fun l => decide (lvl s l = s.k)).filter fun l => !decide (lvl s l = 0) := by
        rw [List.filter_filter, List.filter_filter]
        congr 1
        funext l
        exact Bool.and_comm _ _
      rw [e]
      exact List.length_filter_le _ _
    omega

theorem Inv.taught {n : Nat} {s : Sr} (h : Inv n s) {bad : Int} (hb : bad.toNat < s.cl.length) (hf : ∀ x ∈ s.cl.getD bad.toNat [], -x ∈ s.L) : Inv n ((s.learn (ana s bad).1).back (ana s bad).2) := by
  obtain ⟨h1, h2, ⟨h3, h4⟩, _⟩ := ana_ok h hb hf
  refine (h.learn h1).back h3 (h4.imp id fun ⟨l, hl, _, e⟩ => ?_)
  obtain ⟨p1, p2, p3⟩ := place_at (h2 l hl).1
  exact ⟨(at_L s.L l).toNat, p2, e.symm⟩

theorem find_some {p : Int → Bool} {l : List Int} (h : (l.find? p).getD 0 ≠ 0) : (l.find? p).getD 0 ∈ l ∧ p ((l.find? p).getD 0) = true := by
  cases e : l.find? p with
  | none => rw [e] at h; simp at h
  | some x => exact ⟨List.mem_of_find?_eq_some e, List.find?_some e⟩
theorem find_zero {p : Int → Bool} {l : List Int} (hz : ∀ x ∈ l, x ≠ 0) (h : (l.find? p).getD 0 = 0) : ∀ x ∈ l, p x = false := by
  intro x hx
  cases e : l.find? p with
  | none => rw [List.find?_eq_none] at e; simpa using e x hx
  | some y => rw [e] at h; exact absurd h (hz _ (List.mem_of_find?_eq_some e))

theorem vars_mem {n : Nat} {v : Int} : v ∈ (List.range n).map (fun i : Nat => (i : Int) + 1) ↔ 1 ≤ v ∧ v ≤ n := by
  rw [List.mem_map]
  constructor
  · rintro ⟨i, hi, rfl⟩
    rw [List.mem_range] at hi
    omega
  · rintro ⟨h1, h2⟩
    exact ⟨(v - 1).toNat, by rw [List.mem_range]; omega, by omega⟩

theorem next_ok {n : Nat} {ph : Bool} {L asked : List Int} (hA : Good n asked) (hd : denied L asked = 0) (h : nextL ph L asked n ≠ 0) :
    nextL ph L asked n ∉ L ∧ -nextL ph L asked n ∉ L ∧ (nextL ph L asked n ≠ 0 ∧ -(n : Int) ≤ nextL ph L asked n ∧ nextL ph L asked n ≤ n) ∧ (nextL ph L asked n ∈ asked ∨ ∀ a ∈ asked, a ∈ L) := by
  unfold nextL at h ⊢
  by_cases h1 : openA L asked ≠ 0
  · rw [if_pos h1] at h ⊢
    obtain ⟨h2, h3⟩ : openA L asked ∈ asked ∧ (!decide (openA L asked ∈ L)) = true := find_some h1
    have h4 := find_zero (fun x hx => (hA x hx).1) hd _ h2
    refine ⟨by rw [Bool.not_eq_true', decide_eq_false_iff_not] at h3; exact h3, of_decide_eq_false h4, hA _ h2, .inl h2⟩
  · rw [if_neg h1] at h ⊢
    have h5 : openA L asked = 0 := by omega
    have h6 : ∀ a ∈ asked, a ∈ L := fun a ha => by simpa using find_zero (fun x hx => (hA x hx).1) h5 a ha
    by_cases h2 : openV L n = 0
    · rw [if_pos h2] at h; exact absurd rfl h
    · rw [if_neg h2] at h ⊢
      obtain ⟨h3', h4⟩ : openV L n ∈ (List.range n).map (fun i : Nat => (i : Int) + 1) ∧ (!decide (openV L n ∈ L) && !decide (-openV L n ∈ L)) = true := find_some h2
      rw [vars_mem] at h3'
      have h4' : openV L n ∉ L ∧ -openV L n ∉ L := by rw [Bool.and_eq_true, Bool.not_eq_true', Bool.not_eq_true', decide_eq_false_iff_not, decide_eq_false_iff_not] at h4; exact h4
      cases ph with
      | true => rw [if_pos rfl]; exact ⟨h4'.1, h4'.2, by omega, .inr h6⟩
      | false => rw [if_neg (by decide)]; exact ⟨h4'.2, by rw [Int.neg_neg]; exact h4'.1, by omega, .inr h6⟩

theorem done_all {n : Nat} {ph : Bool} {L asked : List Int} (hA : Good n asked) (h : nextL ph L asked n = 0) : (∀ a ∈ asked, a ∈ L) ∧ ∀ v, 1 ≤ v → v ≤ (n : Int) → v ∈ L ∨ -v ∈ L := by
  unfold nextL at h
  by_cases h1 : openA L asked ≠ 0
  · rw [if_pos h1] at h; exact absurd h h1
  · rw [if_neg h1] at h
    have h5 : openA L asked = 0 := by omega
    have h2 : openV L n = 0 := by
      by_cases h2 : openV L n = 0
      · exact h2
      · rw [if_neg h2] at h
        cases ph
        · rw [if_neg (by decide)] at h; omega
        · rw [if_pos rfl] at h; exact h
    refine ⟨fun a ha => by simpa using find_zero (fun x hx => (hA x hx).1) h5 a ha, fun v h3 h4 => ?_⟩
    have := find_zero (fun x hx => by have := vars_mem.1 hx; omega) h2 v (vars_mem.2 ⟨h3, h4⟩)
    simp only [Bool.and_eq_false_iff, Bool.not_eq_false', decide_eq_true_eq] at this
    exact this
end Sp
end Go.Um

/- Plain laws: the core of a denied literal; what the search that learns answers. No program in sight. No condition. -/

namespace Go.Um
namespace Sp

theorem grow_mem {x : Int} : ∀ (w sn : List Int) (z : Int), z ∈ w.foldl (grow1 x) sn ↔ z ∈ sn ∨ (-z ∈ w ∧ -z ≠ x)
  | [], sn, z => by simp
  | y :: w, sn, z => by
    rw [List.foldl_cons, grow_mem w _ z]
    unfold grow1
    by_cases h : y ≠ x ∧ -y ∉ sn
    · rw [if_pos h]
      simp only [List.mem_append, List.mem_cons, List.not_mem_nil, or_false]
      constructor
      · rintro ((h1 | rfl) | ⟨h1, h2⟩)
        · exact .inl h1
        · exact .inr (by rw [Int.neg_neg]; exact ⟨.inl rfl, h.1⟩)
        · exact .inr ⟨.inr h1, h2⟩
      · rintro (h1 | ⟨h1 | h1, h2⟩)
        · exact .inl (.inl h1)
        · exact .inl (.inr (by omega))
        · exact .inr ⟨h1, h2⟩
    · rw [if_neg h]
      simp only [List.mem_cons]
      constructor
      · rintro (h1 | ⟨h1, h2⟩)
        · exact .inl h1
        · exact .inr ⟨.inr h1, h2⟩
      · rintro (h1 | ⟨h1 | h1, h2⟩)
        · exact .inl h1
        · obtain rfl : z = -y := by omega
          exact .inl (Classical.byContradiction fun h3 => h ⟨by omega, h3⟩)
        · exact .inr ⟨h1, h2⟩

theorem grow_nodup {x : Int} : ∀ (w sn : List Int), sn.Nodup → (w.foldl (grow1 x) sn).Nodup
  | [], sn, h => h
  | y :: w, sn, h => by
    rw [List.foldl_cons]
    refine grow_nodup w _ ?_
    unfold grow1
    by_cases h1 : y ≠ x ∧ -y ∉ sn
    · rw [if_pos h1]; exact nodup_snoc h h1.2
    · rw [if_neg h1]; exact h

theorem grow_pre {x : Int} : ∀ (w sn : List Int), ∃ e, w.foldl (grow1 x) sn = sn ++ e
  | [], sn => ⟨[], by simp⟩
  | y :: w, sn => by
    rw [List.foldl_cons]
    obtain ⟨e, he⟩ := grow_pre w (grow1 x sn y)
    rw [he]
    unfold grow1
    by_cases h1 : y ≠ x ∧ -y ∉ sn
    · rw [if_pos h1]; exact ⟨[-y] ++ e, by rw [List.append_assoc]⟩
    · rw [if_neg h1]; exact ⟨e, rfl⟩
theorem sub_len {L sn : List Int} (hn : sn.Nodup) (hs : ∀ x ∈ sn, x ∈ L) : sn.length ≤ L.length := by
  have h1 : (sn.map fun x => (place L x).toNat).Nodup := by
    rw [List.nodup_iff_pairwise_ne, List.pairwise_map, List.pairwise_iff_getElem]
    intro i j hi hj hij e
    have a := place_at (hs _ (List.getElem_mem hi))
    have b := place_at (hs _ (List.getElem_mem hj))
    have h2 : sn[i] = sn[j] := by rw [← a.2.2, ← b.2.2, e]
    exact absurd h2 ((List.pairwise_iff_getElem.1 (List.nodup_iff_pairwise_ne.1 hn)) i j hi hj hij)
  have h2 := nodup_lt L.length _ h1 (fun y hy => by
    obtain ⟨x, hx, rfl⟩ := List.mem_map.1 hy
    exact (place_at (hs x hx)).2.1)
  simpa using h2
structure SeenC (s : Sr) (l : Int) (out sn : List Int) (j : Nat) : Prop where
  nd : sn.Nodup
  sub : ∀ x ∈ sn, x ∈ s.L
  jl : j ≤ sn.length
  od : out.Nodup
  ol : l ∈ out
  oo : ∀ x ∈ out, x = l ∨ (x ∈ s.L ∧ s.W.getD (place s.L x).toNat 0 < 0)
  fst : -l ∈ sn
  cl : ∀ i, i < j → (s.W.getD (place s.L (sn.getD i 0)).toNat 0 < 0 → sn.getD i 0 ∈ out) ∧ (0 ≤ s.W.getD (place s.L (sn.getD i 0)).toNat 0 → ∀ y ∈ why s (-(sn.getD i 0)), y ≠ sn.getD i 0 → -y ∈ sn)

theorem SeenC.dec {s : Sr} {l : Int} {out sn : List Int} {j : Nat} (h : SeenC s l out sn j) (hj : j < sn.length) (hw : s.W.getD (place s.L (sn.getD j 0)).toNat 0 < 0) :
    SeenC s l (if sn.getD j 0 ∈ out then out else out ++ [sn.getD j 0]) sn (j + 1) := by
  have hm := getD_mem sn j 0 hj
  refine ⟨h.nd, h.sub, by omega, ?_, ?_, ?_, h.fst, fun i hi => ⟨fun h1 => ?_, fun h1 => ?_⟩⟩
  · split
    · exact h.od
    · rename_i h1; exact nodup_snoc h.od h1
  · split
    · exact h.ol
    · exact List.mem_append_left _ h.ol
  · intro x hx
    split at hx
    · exact h.oo x hx
    · rcases List.mem_append.1 hx with h1 | h1
      · exact h.oo x h1
      · rw [List.mem_singleton.1 h1]; exact .inr ⟨h.sub _ hm, hw⟩
  · by_cases e : i < j
    · have := (h.cl i e).1 h1
      split
      · exact this
      · exact List.mem_append_left _ this
    · obtain rfl : i = j := by omega
      split
      · assumption
      · simp
  · by_cases e : i < j
    · exact (h.cl i e).2 h1
    · obtain rfl : i = j := by omega
      omega

theorem SeenC.step {n : Nat} {s : Sr} (hi : Inv n s) {l : Int} {out sn : List Int} {j : Nat} (h : SeenC s l out sn j) (hj : j < sn.length) (hw : ¬ s.W.getD (place s.L (sn.getD j 0)).toNat 0 < 0) :
    SeenC s l out ((why s (-(sn.getD j 0))).foldl (grow1 (sn.getD j 0)) sn) (j + 1) := by
  have hm := getD_mem sn j 0 hj
  obtain ⟨p1, p2, p3⟩ := place_at (h.sub _ hm)
  obtain ⟨e, he⟩ := grow_pre (x := sn.getD j 0) (why s (-(sn.getD j 0))) sn
  have hg : ∀ i, i < sn.length → ((why s (-(sn.getD j 0))).foldl (grow1 (sn.getD j 0)) sn).getD i 0 = sn.getD i 0 := fun i hi => by rw [he]; exact app_l hi
  have hin : ∀ x ∈ sn, x ∈ (why s (-(sn.getD j 0))).foldl (grow1 (sn.getD j 0)) sn := fun x hx => (grow_mem _ _ _).2 (.inl hx)
  have hr : Reason s.cl s.L (s.W.getD (place s.L (sn.getD j 0)).toNat 0) (place s.L (sn.getD j 0)).toNat := by
    rcases hi.re _ p2 with ⟨h1, _⟩ | ⟨h1, _⟩
    · omega
    · exact h1
  refine ⟨grow_nodup _ _ h.nd, fun x hx => ?_, by rw [he]; simp; omega, h.od, h.ol, h.oo, hin _ h.fst, fun i hi => ?_⟩
  · rcases (grow_mem _ _ _).1 hx with h1 | ⟨h1, h2⟩
    · exact h.sub x h1
    · have h3 := hr.2.2.2 (-x) (by unfold why at_L at h1; rw [Int.neg_neg] at h1; exact h1) (by rw [p3]; exact h2)
      rw [Int.neg_neg] at h3
      exact List.mem_of_mem_take h3
  · rw [hg i (by omega)]
    by_cases e2 : i < j
    · exact ⟨(h.cl i e2).1, fun h1 y hy hne => hin _ ((h.cl i e2).2 h1 y hy hne)⟩
    · obtain rfl : i = j := by omega
      exact ⟨fun h1 => absurd h1 hw, fun _ y hy hne => (grow_mem _ _ _).2 (.inr (by rw [Int.neg_neg]; exact ⟨hy, hne⟩))⟩

theorem SeenC.end {n : Nat} {s : Sr} (hi : Inv n s) {l : Int} : ∀ (m : Nat) {out sn : List Int} {j : Nat}, SeenC s l out sn j → s.L.length < m + j → ∃ sn', SeenC s l (coreF s m out sn j) sn' sn'.length
  | 0, out, sn, j, h, hm => by
    have := sub_len h.nd h.sub
    have := h.jl
    omega
  | m + 1, out, sn, j, h, hm => by
    rw [coreF]
    by_cases hj : j < sn.length
    · rw [if_pos hj]
      by_cases hw : s.W.getD (place s.L (sn.getD j 0)).toNat 0 < 0
      · rw [if_pos hw]; exact SeenC.end hi m (h.dec hj hw) (by omega)
      · rw [if_neg hw]; exact SeenC.end hi m (h.step hi hj hw) (by omega)
    · rw [if_neg hj]
      refine ⟨sn, ?_⟩
      have : j = sn.length := by have := h.jl; omega
      rw [← this]
      exact h

theorem SeenC.begin {s : Sr} {l : Int} (hl : -l ∈ s.L) : SeenC s l [l] [-l] 0 where
  nd := by simp
  sub := fun x hx => by rw [List.mem_singleton.1 hx]; exact hl
  jl := Nat.zero_le _
  od := by simp
  ol := by simp
  oo := fun x hx => .inl (List.mem_singleton.1 hx)
  fst := by simp
  cl := fun i hi => absurd hi (Nat.not_lt_zero _)
def Decs (asked : List Int) (s : Sr) : Prop := ∀ i, i < s.L.length → s.W.getD i 0 = -1 → s.L.getD i 0 ∈ asked ∨ ∀ a ∈ asked, a ∈ s.L.take i

theorem core_mem {s : Sr} {l x : Int} : x ∈ coreC s l ↔ x ∈ coreF s (s.L.length + 1) [l] [-l] 0 := (List.mergeSort_perm _ _).mem_iff

theorem core_ok {n : Nat} {s : Sr} (hi : Inv n s) {asked : List Int} (hA : Cl asked) (hd : Decs asked s) {l : Int} (hl : l ∈ asked) (hn : -l ∈ s.L) :
    Rup s.cl ((coreC s l).map fun x => -x) ∧ (coreC s l).Pairwise (fun x y => x < y) ∧ (∀ x ∈ coreC s l, x ∈ asked) := by
  obtain ⟨sn, h⟩ := SeenC.end hi (s.L.length + 1) (SeenC.begin hn) (by omega)
  have hl0 := (hA.2 l hl).1
  have hdec : ∀ x ∈ s.L, s.W.getD (place s.L x).toNat 0 < 0 → x ∈ asked := by
    intro x hx hw
    obtain ⟨p1, p2, p3⟩ := place_at hx
    have hw1 : s.W.getD (place s.L x).toNat 0 = -1 := by
      rcases hi.re _ p2 with ⟨h1, _⟩ | ⟨⟨h1, _⟩, _⟩
      · exact h1
      · omega
    rcases hd _ p2 hw1 with h1 | h1
    · rw [p3] at h1; exact h1
    · exact absurd hn (hi.ds.neg hi.lz (List.mem_of_mem_take (h1 l hl)))
  refine ⟨fun T hT hx => ?_, ?_, fun x hx => ?_⟩
  · have hout : ∀ x ∈ coreF s (s.L.length + 1) [l] [-l] 0, x ∈ T := fun x hx2 => by
      have := hx (-x) (List.mem_map.2 ⟨x, core_mem.2 hx2, rfl⟩)
      rwa [Int.neg_neg] at this
    have hall : ∀ p x, (place s.L x).toNat = p → x ∈ sn → x ∈ T := by
      intro p
      induction p using Nat.strongRecOn with
      | _ p ih =>
        intro x hp hxs
        obtain ⟨i, hi1, hi2⟩ := memV_getD.1 hxs
        have hc := h.cl i hi1
        rw [hi2] at hc
        obtain ⟨p1, p2, p3⟩ := place_at (h.sub x hxs)
        by_cases hw : s.W.getD (place s.L x).toNat 0 < 0
        · exact hout x (hc.1 hw)
        · rcases hi.re _ p2 with ⟨h1, _⟩ | ⟨⟨h1, h2, h3, h4⟩, _⟩
          · omega
          · rw [p3] at h3 h4
            refine (hT _ (getD_mem _ _ _ h2)).2 x h3 fun y hy hne => ?_
            have hy2 := h4 y hy hne
            obtain ⟨q, q1, q2, q3⟩ := mem_take.1 hy2
            have hq : place s.L (-y) = q := by rw [← q3]; exact hi.ds.place q2
            exact ih q (by omega) (-y) (by rw [hq]; rfl) (hc.2 h1 y (by unfold why at_L; rw [Int.neg_neg]; exact hy) hne)
    have hlT := hout l h.ol
    obtain ⟨p1, p2, p3⟩ := place_at hn
    by_cases hw : s.W.getD (place s.L (-l)).toNat 0 < 0
    · exact (hA.2 l hl).2 (hdec _ hn hw)
    · rcases hi.re _ p2 with ⟨h1, _⟩ | ⟨⟨h1, h2, h3, h4⟩, _⟩
      · omega
      · obtain ⟨x, hx1, hx2⟩ := (hT _ (getD_mem _ _ _ h2)).1
        by_cases e : x = -l
        · subst e
          rw [Int.neg_neg] at hx2
          exact hx2 hlT
        · rw [p3] at h4
          obtain ⟨i, hi1, hi2⟩ := memV_getD.1 h.fst
          have hc := (h.cl i hi1).2
          rw [hi2] at hc
          exact hx2 (hall _ (-x) rfl (hc h1 x (by unfold why at_L; rw [Int.neg_neg]; exact hx1) e))
  · have hs : (coreC s l).Pairwise (fun x y => decide (x ≤ y) = true) := List.pairwise_mergeSort (by intro a b c h1 h2; simp at *; omega) (by intro a b; simp; omega) _
    have hnd : (coreC s l).Nodup := (List.mergeSort_perm _ _).nodup_iff.2 h.od
    rw [List.nodup_iff_pairwise_ne] at hnd
    refine (hs.and hnd).imp fun ⟨h1, h2⟩ => ?_
    simp at h1
    omega
  · rcases h.oo x (core_mem.1 hx) with rfl | ⟨h1, h2⟩
    · exact hl
    · exact hdec x h1 h2
def Chain (ls st : List (List Int)) : Prop := ∀ i, i < st.length → Rup (ls ++ st.take i) (st.getD i [])

theorem Chain.snoc {ls st : List (List Int)} {c : List Int} (h : Chain ls st) (hc : Rup (ls ++ st) c) : Chain ls (st ++ [c]) := by
  intro i hi
  simp only [List.length_append, List.length_cons, List.length_nil] at hi
  by_cases e : i < st.length
  · rw [app_l e, take_l (by omega)]; exact h i e
  · obtain rfl : i = st.length := by omega
    rw [app_r rfl, take_l (Nat.le_refl _), List.take_of_length_le (Nat.le_refl _)]; exact hc

structure Head (n : Nat) (asked : List Int) (ls : List (List Int)) (s : Sr) : Prop where
  inv : Inv n s
  cl : s.cl = ls ++ s.st
  ch : Chain ls s.st
  dec : Decs asked s
  sh : ∀ b, 0 ≤ b → b < s.k → Shut s.cl (s.L.take (keep s.lv b))

theorem Head.start {n : Nat} {asked : List Int} {ls : List (List Int)} (h : ∀ c ∈ ls, Good n c ∧ Cl c) : Head n asked ls (start ls) where
  inv := Inv.start h
  cl := by simp [Sp.start]
  ch := fun i hi => absurd hi (Nat.not_lt_zero _)
  dec := fun i hi => absurd hi (Nat.not_lt_zero _)
  sh := fun b h1 h2 => by have h3 : b < 0 := h2; omega

theorem run_ext (s : Sr) : ∃ e f, s.run.L = s.L ++ e ∧ s.run.W = s.W ++ f ∧ e.length = f.length ∧ ∀ x ∈ f, 0 ≤ x := on_ext s.cl s.L s.W

theorem keep_app {lv : List Int} {b k : Int} {j : Nat} (h : b < k) : keep (lv ++ List.replicate j k) b = keep lv b := by
  unfold keep
  rw [List.takeWhile_append]
  split
  · rename_i h1
    cases j with
    | zero => simp [h1]
    | succ j => rw [List.replicate_succ, List.takeWhile_cons_of_neg (by simpa using h)]; simp [h1]
  · rfl

theorem Head.run {n : Nat} {asked : List Int} {ls : List (List Int)} {s : Sr} (h : Head n asked ls s) : Head n asked ls s.run where
  inv := h.inv.run
  cl := h.cl
  ch := h.ch
  dec := by
    obtain ⟨e, f, h1, h2, h3, h4⟩ := run_ext s
    intro i hi hw
    rw [h1] at hi ⊢
    rw [h2] at hw
    have hlw := h.inv.lw
    by_cases hi2 : i < s.L.length
    · rw [app_l (by omega)] at hw
      rw [app_l hi2, take_l (by omega)]
      exact h.dec i hi2 hw
    · exfalso
      have hm : (s.W ++ f).getD i 0 ∈ f := by
        simp only [List.length_append] at hi
        rw [List.getD_eq_getElem?_getD, List.getElem?_append_right (by omega), List.getElem?_eq_getElem (by omega)]
        exact List.getElem_mem _
      have := h4 _ hm
      omega
  sh := fun b hb hk => by
    obtain ⟨e, f, h1, h2, h3, h4⟩ := run_ext s
    have hk' : b < s.k := hk
    show Shut s.cl (s.run.L.take (keep (s.lv ++ List.replicate _ s.k) b))
    rw [keep_app hk', h1, take_l (by rw [← h.inv.ll]; exact keep_le)]
    exact h.sh b hb hk'

theorem keep_all {lv : List Int} {b : Int} (h : ∀ x ∈ lv, x ≤ b) : keep lv b = lv.length := by
  unfold keep
  induction lv with
  | nil => rfl
  | cons x lv ih =>
    rw [List.takeWhile_cons_of_pos (by simpa using h x (List.mem_cons_self ..)), List.length_cons, List.length_cons, ih (fun y hy => h y (List.mem_cons_of_mem _ hy))]

theorem Head.next {n : Nat} {asked : List Int} {ls : List (List Int)} {s : Sr} (h : Head n asked ls s) (hsh : Shut s.cl s.L) {x : Int} (hx : x ∉ s.L) (hx2 : -x ∉ s.L) (hg : x ≠ 0 ∧ -(n : Int) ≤ x ∧ x ≤ n) (ha : x ∈ asked ∨ ∀ a ∈ asked, a ∈ s.L) : Head n asked ls (s.next x) where
  inv := h.inv.next hx hx2 hg
  cl := h.cl
  ch := h.ch
  dec := by
    intro i hi hw
    have hi' : i < s.L.length + 1 := by simpa [Sr.next] using hi
    show (s.L ++ [x]).getD i 0 ∈ asked ∨ ∀ a ∈ asked, a ∈ (s.L ++ [x]).take i
    have hw' : (s.W ++ [-1]).getD i 0 = -1 := hw
    have hlw := h.inv.lw
    by_cases e : i < s.L.length
    · rw [app_l (by omega)] at hw'
      rw [app_l e, take_l (by omega)]
      exact h.dec i e hw'
    · obtain rfl : i = s.L.length := by omega
      rw [app_r rfl, take_l (Nat.le_refl _), List.take_of_length_le (Nat.le_refl _)]
      exact ha
  sh := fun b hb hk => by
    have hk' : b < s.k + 1 := hk
    show Shut s.cl ((s.L ++ [x]).take (keep (s.lv ++ [s.k + 1]) b))
    rw [show [s.k + 1] = List.replicate 1 (s.k + 1) from rfl, keep_app hk', take_l (by rw [← h.inv.ll]; exact keep_le)]
    by_cases e : b < s.k
    · exact h.sh b hb e
    · obtain rfl : b = s.k := by omega
      rw [keep_all (fun y hy => by
        obtain ⟨i, hi, rfl⟩ := memV_getD.1 hy
        exact (h.inv.tp i (by rw [← h.inv.ll]; exact hi)).2), h.inv.ll, List.take_of_length_le (Nat.le_refl _)]
      exact hsh
theorem Head.two {n : Nat} {asked : List Int} {ls : List (List Int)} {s : Sr} (h : Head n asked ls s) (hk : 1 ≤ s.k) {c : List Int} (hc : c ∈ s.cl) (hf : ∀ x ∈ c, -x ∈ s.L) : ∃ x ∈ c, ∃ y ∈ c, y ≠ x ∧ lvl s x = s.k ∧ lvl s y = s.k := by
  have hT := h.sh (s.k - 1) (by omega) (by omega) c hc
  have key : ∀ x ∈ c, -x ∉ s.L.take (keep s.lv (s.k - 1)) → lvl s x = s.k := by
    intro x hx h1
    obtain ⟨p1, p2, p3⟩ := place_at (hf x hx)
    have h2 : ¬ (place s.L (-x)).toNat < keep s.lv (s.k - 1) := fun h3 => h1 (mem_take.2 ⟨_, h3, p2, p3⟩)
    rw [h.inv.keep p2] at h2
    have h3 := (h.inv.tp _ p2).2
    unfold lvl at_L
    omega
  obtain ⟨⟨x, hx, hx2⟩, h2⟩ := hT
  have hn : ¬ ∀ y ∈ c, y ≠ x → -y ∈ s.L.take (keep s.lv (s.k - 1)) := fun h3 => by
    have h4 := List.mem_of_mem_take (h2 x hx h3)
    exact h.inv.ds.neg h.inv.lz h4 (hf x hx)
  obtain ⟨y, hy, hy1, hy2⟩ : ∃ y ∈ c, y ≠ x ∧ -y ∉ s.L.take (keep s.lv (s.k - 1)) := Classical.byContradiction fun h3 => hn fun y hy hne => Classical.byContradiction fun h4 => h3 ⟨y, hy, hne, h4⟩
  exact ⟨x, hx, y, hy, hy1, key x hx hx2, key y hy hy2⟩

theorem count_one_le {s : Sr} {n : Nat} (h : Inv n s) : ∀ {m : Nat} {c : List Int}, Low n s m c → (∃ x ∈ c, lvl s x = s.k) → ∃ x ∈ anaF s m c, lvl s x = s.k
  | 0, c, _, h1 => h1
  | m + 1, c, hc, h1 => by
    rw [anaF]
    by_cases h2 : (scan s c).2 < 2
    · rw [if_pos h2]; exact h1
    · rw [if_neg h2]
      refine count_one_le h (hc.step h (by omega)) ?_
      have hz : ∀ l ∈ c, l ≠ 0 := fun l hl e => by
        have := h.lz _ (hc.2 l hl).1
        omega
      have hcount := scan_count (s := s) hz
      have hn : (c.filter fun l => decide (lvl s l = s.k)).Nodup := hc.1.filter _
      obtain ⟨l2, hl2, hne⟩ : ∃ l2 ∈ c.filter (fun l => decide (lvl s l = s.k)), l2 ≠ (scan s c).1 := by
        have hlen : 2 ≤ (c.filter fun l => decide (lvl s l = s.k)).length := by omega
        generalize c.filter (fun l => decide (lvl s l = s.k)) = f at hn hlen
        match f, hn, hlen with
        | [], _, hlen => simp at hlen
        | [_], _, hlen => simp at hlen
        | a :: b :: f, hn, _ =>
          by_cases e : a = (scan s c).1
          · refine ⟨b, by simp, fun e2 => ?_⟩
            rw [List.nodup_cons] at hn
            exact hn.1 (by rw [e, ← e2]; exact List.mem_cons_self ..)
          · exact ⟨a, List.mem_cons_self .., e⟩
      rw [List.mem_filter] at hl2
      exact ⟨l2, reso_mem.2 (.inl ⟨hl2.1, hne⟩), by simpa using hl2.2⟩
theorem taught_one {n : Nat} {asked : List Int} {ls : List (List Int)} {s : Sr} (h : Head n asked ls s) (hk : 1 ≤ s.k) {bad : Int} (hb : bad.toNat < s.cl.length) (hf : ∀ x ∈ s.cl.getD bad.toNat [], -x ∈ s.L) :
    (ana s bad).2 < s.k ∧ ∃ z ∈ (ana s bad).1, lvl s z = s.k ∧ ∀ x ∈ (ana s bad).1, x ≠ z → lvl s x ≤ (ana s bad).2 := by
  have hm := getD_mem s.cl bad.toNat [] hb
  obtain ⟨h1, h2, ⟨h3, h4⟩, h5, h6⟩ := ana_ok h.inv hb hf
  obtain ⟨x, hx, _, _, _, hx2, _⟩ := h.two hk hm hf
  obtain ⟨z, hz, hz2⟩ := count_one_le h.inv (Low.bad h.inv hm hf) ⟨x, hx, hx2⟩
  have hzm : z ∈ (ana s bad).1 := List.mem_filter.2 ⟨hz, by simp; omega⟩
  refine ⟨by rcases h4 with h4 | ⟨l, _, h7, h8⟩ <;> omega, z, hzm, hz2, fun y hy hne => ?_⟩
  obtain ⟨p1, p2, p3⟩ := place_at (h2 y hy).1
  have htp : lvl s y ≤ s.k := (h.inv.tp _ p2).2
  by_cases e : lvl s y = s.k
  · exfalso
    have hn : ((ana s bad).1.filter fun l => decide (lvl s l = s.k)).Nodup := h1.2.1.filter _
    have ha : z ∈ (ana s bad).1.filter fun l => decide (lvl s l = s.k) := List.mem_filter.2 ⟨hzm, by simpa using hz2⟩
    have hb2 : y ∈ (ana s bad).1.filter fun l => decide (lvl s l = s.k) := List.mem_filter.2 ⟨hy, by simpa using e⟩
    generalize (ana s bad).1.filter (fun l => decide (lvl s l = s.k)) = f at hn ha hb2 h6
    match f, h6, ha, hb2 with
    | [], _, ha, _ => cases ha
    | [q], _, ha, hb2 => exact hne ((List.mem_singleton.1 hb2).trans (List.mem_singleton.1 ha).symm)
    | _ :: _ :: f, h6, _, _ => simp at h6; omega
  · exact h5 y hy (by omega)

theorem Head.taught {n : Nat} {asked : List Int} {ls : List (List Int)} {s : Sr} (h : Head n asked ls s) (hk : 1 ≤ s.k) {bad : Int} (hb : bad.toNat < s.cl.length) (hf : ∀ x ∈ s.cl.getD bad.toNat [], -x ∈ s.L) :
    Head n asked ls ((s.learn (ana s bad).1).back (ana s bad).2) := by
  obtain ⟨h1, h2, ⟨h3, h4⟩, h5, h6⟩ := ana_ok h.inv hb hf
  obtain ⟨hlt, z, hz, hz2, hz3⟩ := taught_one h hk hb hf
  have hr := learnt_rup h.inv hb hf
  have hp : keep s.lv (ana s bad).2 ≤ s.L.length := by rw [← h.inv.ll]; exact keep_le
  refine ⟨h.inv.taught hb hf, ?_, ?_, ?_, ?_⟩
  · show s.cl ++ [(ana s bad).1] = ls ++ (s.st ++ [(ana s bad).1])
    rw [h.cl, List.append_assoc]
  · exact h.ch.snoc (by rw [← h.cl]; exact hr)
  · intro i hi hw
    have hi' : i < keep s.lv (ana s bad).2 := by
      have : i < (s.L.take (keep s.lv (ana s bad).2)).length := hi
      simp at this
      omega
    show (s.L.take (keep s.lv (ana s bad).2)).getD i 0 ∈ asked ∨ ∀ a ∈ asked, a ∈ (s.L.take (keep s.lv (ana s bad).2)).take i
    have hw' : (s.W.take (keep s.lv (ana s bad).2)).getD i 0 = -1 := hw
    rw [getD_take _ _ _ _ hi'] at hw'
    rw [getD_take _ _ _ _ hi', List.take_take, Nat.min_eq_left (by omega)]
    exact h.dec i (by omega) hw'
  · intro b hb0 hbk
    have hbk' : b < (ana s bad).2 := hbk
    have hkk : keep (s.lv.take (keep s.lv (ana s bad).2)) b = keep s.lv b := by
      have e1 : keep s.lv b ≤ keep s.lv (ana s bad).2 := by
        refine Classical.byContradiction fun h7 => ?_
        have h8 := keep_in (lv := s.lv) (b := b) (i := keep s.lv (ana s bad).2) (by omega)
        have h9 := keep_out (lv := s.lv) (b := (ana s bad).2) (by have := keep_le (lv := s.lv) (b := b); omega)
        omega
      have e2 : s.lv.take (keep s.lv (ana s bad).2) ++ s.lv.drop (keep s.lv (ana s bad).2) = s.lv := List.take_append_drop ..
      refine Nat.le_antisymm ?_ ?_
      · refine Classical.byContradiction fun h7 => ?_
        have hl : keep (s.lv.take (keep s.lv (ana s bad).2)) b ≤ keep s.lv (ana s bad).2 := Nat.le_trans keep_le (by simp; omega)
        have h8 := keep_in (lv := s.lv.take (keep s.lv (ana s bad).2)) (b := b) (i := keep s.lv b) (by omega)
        rw [getD_take _ _ _ _ (by omega)] at h8
        have h9 := keep_out (lv := s.lv) (b := b) (by have := keep_le (lv := s.lv) (b := (ana s bad).2); omega)
        omega
      · refine Classical.byContradiction fun h7 => ?_
        have h8 := keep_out (lv := s.lv.take (keep s.lv (ana s bad).2)) (b := b) (by simp only [List.length_take]; have := keep_le (lv := s.lv) (b := (ana s bad).2); omega)
        rw [getD_take _ _ _ _ (by omega)] at h8
        have h9 := keep_in (lv := s.lv) (b := b) (i := keep (s.lv.take (keep s.lv (ana s bad).2)) b) (by omega)
        omega
    show Shut (s.cl ++ [(ana s bad).1]) ((s.L.take (keep s.lv (ana s bad).2)).take (keep (s.lv.take (keep s.lv (ana s bad).2)) b))
    rw [hkk, List.take_take]
    have hmin : min (keep s.lv b) (keep s.lv (ana s bad).2) = keep s.lv b := by
      have := keep_le (lv := s.lv.take (keep s.lv (ana s bad).2)) (b := b)
      rw [hkk] at this
      simp at this
      omega
    rw [hmin]
    intro c hc
    rcases List.mem_append.1 hc with h7 | h7
    · exact h.sh b hb0 (by omega) c h7
    · rw [List.mem_singleton.1 h7]
      obtain ⟨l, hl, _, hl2⟩ := h4.resolve_left (by omega)
      have open_ : ∀ x ∈ (ana s bad).1, b < lvl s x → -x ∉ s.L.take (keep s.lv b) := by
        intro x hx hlv hin
        obtain ⟨j, j1, j2, j3⟩ := mem_take.1 hin
        have h8 := keep_in j1
        have h9 : at_L s.L x = j := by unfold at_L; rw [← j3]; exact h.inv.ds.place j2
        unfold lvl at hlv
        rw [h9] at hlv
        simp at hlv
        simp at h8
        omega
      have o1 := open_ z hz (by omega)
      have o2 := open_ l hl (by omega)
      refine ⟨⟨z, hz, o1⟩, fun x hx hall => ?_⟩
      exfalso
      by_cases e : x = z
      · exact o2 (hall l hl (by rw [e]; intro e2; rw [e2] at hl2; omega))
      · exact o1 (hall z hz (fun e2 => e e2.symm))
end Sp
end Go.Um

/- Plain laws: a clause seen on a trail, as the program sees it. No program in sight. No condition. -/

namespace Go.Um
namespace Sp

theorem falseIn_no {c L : List Int} {x : Int} (hx : x ∈ c) (h0 : x ≠ 0) (h : -x ∉ L) : falseIn c L 0 = false := by
  rw [Bool.eq_false_iff]
  intro h1
  unfold falseIn at h1
  simp only [List.all_eq_true, Bool.or_eq_true, decide_eq_true_eq] at h1
  rcases h1 x hx with h2 | h2
  · exact h0 h2
  · exact h h2
theorem st_no {c L : List Int} (hc : Cl c) {x q : Int} (hx : x ∈ c) (h1 : -x ∉ L) (h2 : x ∈ L ∨ (q ≠ 0 ∧ q ∈ c ∧ q ≠ x ∧ q ∉ L ∧ -q ∉ L)) : falseIn c L 0 = false ∧ must c L = 0 := by
  refine ⟨falseIn_no hx (hc.2 x hx).1 h1, Classical.byContradiction fun h3 => ?_⟩
  obtain ⟨m1, m2, m3, m4⟩ := must_spec h3
  unfold falseIn at m4
  simp only [List.all_eq_true, Bool.or_eq_true, decide_eq_true_eq] at m4
  have h4 := (m4 x hx).resolve_right h1
  rcases h2 with h2 | ⟨_, h5, h6, h7, h8⟩
  · rw [← h4] at m2
    exact m2 h2
  · have h9 := (m4 q h5).resolve_right h8
    exact h6 (h9.trans h4.symm)

theorem st_end {c L : List Int} (hc : Cl c) {q : Int} (h1 : ∀ y ∈ c, y = q ∨ -y ∈ L) (h2 : q = 0 ∨ (q ∈ c ∧ q ∉ L ∧ -q ∉ L)) : falseIn c L 0 = decide (q = 0) ∧ must c L = q := by
  rcases h2 with rfl | ⟨h3, h4, h5⟩
  · have h6 : ∀ y ∈ c, -y ∈ L := fun y hy => (h1 y hy).resolve_left (hc.2 y hy).1
    refine ⟨(falseIn_iff (fun x hx => (hc.2 x hx).1)).2 h6, Classical.byContradiction fun h7 => ?_⟩
    obtain ⟨m1, m2, m3, m4⟩ := must_spec h7
    exact m3 (h6 _ m1)
  · have h0 := (hc.2 q h3).1
    refine ⟨by rw [falseIn_no h3 h0 h5, decide_eq_false h0], must_eq h3 (fun y hy hne => (h1 y hy).resolve_left hne) h4 h5⟩

theorem nodup_at {c : List Int} (hc : c.Nodup) {i : Nat} (hi : i < c.length) : c.getD i 0 ∉ c.take i := by
  intro h
  obtain ⟨j, h1, h2, h3⟩ := mem_take.1 h
  rw [List.nodup_iff_pairwise_ne, List.pairwise_iff_getElem] at hc
  have := hc j i h2 hi h1
  simp only [List.getD, List.getElem?_eq_getElem h2, List.getElem?_eq_getElem hi, Option.getD_some] at h3
  exact this h3

theorem idxT_new {α : Type} {p : α → Bool} {l : List α} {i : Nat} {z : α} (hi : i < l.length) (h : idx p (l.take i) < 0) (hp : p (l.getD i z) = true) : idx p (l.take (i + 1)) = i := by
  refine idx_at (z := z) (by simp; omega) (fun y hy => ?_) (by rw [getD_take _ _ _ _ (Nat.lt_succ_self i)]; exact hp)
  rw [List.take_take, Nat.min_eq_left (by omega)] at hy
  exact idxV_neg h y hy
theorem idxT_old {α : Type} {p : α → Bool} {l : List α} {i : Nat} {z : α} (hi : i < l.length) (h : ¬ (p (l.getD i z) = true ∧ idx p (l.take i) < 0)) : idx p (l.take (i + 1)) = idx p (l.take i) := by
  rw [take_getD l i z hi]
  by_cases h1 : idx p (l.take i) < 0
  · have h2 : p (l.getD i z) = false := by
      cases e : p (l.getD i z)
      · rfl
      · exact absurd ⟨e, h1⟩ h
    have h3 := idxV_neg h1
    have h4 : ∀ y ∈ l.take i ++ [l.getD i z], p y = false := by
      intro y hy
      rcases List.mem_append.1 hy with h5 | h5
      · exact h3 y h5
      · rw [List.mem_singleton.1 h5]; exact h2
    rw [idx_none h4, idx_none h3]
  · exact idx_app (by omega)
theorem idxT_nil {α : Type} (p : α → Bool) (l : List α) : idx p (l.take 0) = -1 := by simp [idx]
theorem idxT_all {α : Type} (p : α → Bool) {l : List α} {i : Nat} (h : l.length ≤ i) : idx p (l.take i) = idx p l := by rw [List.take_of_length_le h]

theorem on_len (ls : List (List Int)) (t w : List Int) : t.length ≤ (on ls t w).1.length ∧ (on ls t w).2.1.length = w.length + ((on ls t w).1.length - t.length) := by
  obtain ⟨e, f, h1, h2, h3, _⟩ := on_ext ls t w
  rw [h1, h2]
  simp
  omega
theorem room_le (ls : List (List Int)) (t : List Int) : room ls t ≤ ls.flatten.length := List.length_filter_le _ _
end Sp
end Go.Um

/- Plain laws: the search that learns, step by step, as the program does it. No program in sight. No condition. -/

namespace Go.Um
namespace Sp

theorem ana_stop {s : Sr} {m : Nat} {c : List Int} (h : (scan s c).2 < 2) : anaF s m c = c := by
  cases m with
  | zero => rfl
  | succ m => rw [anaF, if_pos h]
theorem ana_go {s : Sr} {m : Nat} {c : List Int} (h : 2 ≤ (scan s c).2) : anaF s (m + 1) c = anaF s m (reso c (why s (scan s c).1) (scan s c).1) := by rw [anaF, if_neg (by omega)]

def scT (s : Sr) (c : List Int) (i : Nat) : Int × Int := (c.take i).foldl (scanS s) (0, 0)
theorem scT_all {s : Sr} {c : List Int} {i : Nat} (h : c.length ≤ i) : scT s c i = scan s c := by unfold scT scan; rw [List.take_of_length_le h]
theorem scT_step {s : Sr} {c : List Int} {i : Nat} (h : i < c.length) : scT s c (i + 1) = scanS s (scT s c i) (c.getD i 0) := by
  unfold scT
  rw [take_getD c i 0 h, List.foldl_append]
  rfl
theorem scan_bnd {s : Sr} : ∀ (c : List Int) (p : Int × Int), 0 ≤ p.2 → 0 ≤ (c.foldl (scanS s) p).2 ∧ (c.foldl (scanS s) p).2 ≤ p.2 + c.length ∧ ((c.foldl (scanS s) p).1 = p.1 ∨ (c.foldl (scanS s) p).1 ∈ c)
  | [], p, h => ⟨h, by simp, .inl rfl⟩
  | x :: c, p, h => by
    rw [List.foldl_cons]
    have hp : 0 ≤ (scanS s p x).2 ∧ (scanS s p x).2 ≤ p.2 + 1 ∧ ((scanS s p x).1 = p.1 ∨ (scanS s p x).1 = x) := by
      unfold scanS
      split
      · refine ⟨by simp; omega, by simp, ?_⟩
        simp only
        split
        · exact .inr rfl
        · exact .inl rfl
      · exact ⟨h, by omega, .inl rfl⟩
    obtain ⟨h1, h2, h3⟩ := scan_bnd c (scanS s p x) hp.1
    refine ⟨h1, by rw [List.length_cons]; omega, ?_⟩
    rcases h3 with h3 | h3
    · rcases hp.2.2 with h4 | h4
      · exact .inl (h3.trans h4)
      · exact .inr (by rw [h3, h4]; exact List.mem_cons_self ..)
    · exact .inr (List.mem_cons_of_mem _ h3)
theorem scT_bnd (s : Sr) (c : List Int) (i : Nat) : 0 ≤ (scT s c i).2 ∧ (scT s c i).2 ≤ i ∧ ((scT s c i).1 = 0 ∨ (scT s c i).1 ∈ c) := by
  obtain ⟨h1, h2, h3⟩ := scan_bnd (s := s) (c.take i) (0, 0) (Int.le_refl _)
  refine ⟨h1, ?_, h3.imp id List.mem_of_mem_take⟩
  have : (c.take i).length ≤ i := List.length_take_le _ _
  unfold scT
  simp at h2 ⊢
  omega

def resT (c w : List Int) (x : Int) (j : Nat) : List Int := (w.take j).foldl (addN (-x)) (c.filter fun l => !decide (l = x))
theorem resT_all {c w : List Int} {x : Int} {j : Nat} (h : w.length ≤ j) : resT c w x j = reso c w x := by unfold resT reso; rw [List.take_of_length_le h]
theorem resT_step {c w : List Int} {x : Int} {j : Nat} (h : j < w.length) : resT c w x (j + 1) = addN (-x) (resT c w x j) (w.getD j 0) := by
  unfold resT
  rw [take_getD w j 0 h, List.foldl_append]
  rfl
theorem addN_len {x : Int} : ∀ (w c : List Int), (w.foldl (addN x) c).length ≤ c.length + w.length
  | [], c => by simp
  | y :: w, c => by
    rw [List.foldl_cons]
    have := addN_len (x := x) w (addN x c y)
    have h2 : (addN x c y).length ≤ c.length + 1 := by
      unfold addN
      split <;> simp
    rw [List.length_cons]
    omega
theorem resT_len (c w : List Int) (x : Int) (j : Nat) : (resT c w x j).length ≤ c.length + w.length := by
  have h1 := addN_len (x := -x) (w.take j) (c.filter fun l => !decide (l = x))
  have h2 : (c.filter fun l => !decide (l = x)).length ≤ c.length := List.length_filter_le _ _
  have h3 : (w.take j).length ≤ w.length := List.length_take_le' _ _
  unfold resT
  omega

theorem nodup_good {n : Nat} {c : List Int} (h : c.Nodup) (hG : Good n c) : c.length ≤ 2 * n := by
  have h1 : (c.map fun x : Int => (x + (n : Int)).toNat - if 0 < x then 1 else 0).Nodup := by
    rw [List.nodup_iff_pairwise_ne, List.pairwise_map, List.pairwise_iff_getElem]
    intro i j hi hj hij e
    have a := hG _ (List.getElem_mem hi)
    have b := hG _ (List.getElem_mem hj)
    have hne := (List.pairwise_iff_getElem.1 (List.nodup_iff_pairwise_ne.1 h)) i j hi hj hij
    split at e <;> split at e <;> omega
  have h2 := nodup_lt (2 * n) _ h1 (fun y hy => by
    obtain ⟨x, hx, rfl⟩ := List.mem_map.1 hy
    have := hG x hx
    split <;> omega)
  simpa using h2

theorem Low.good {n : Nat} {s : Sr} (h : Inv n s) {m : Nat} {c : List Int} (hc : Low n s m c) : Good n c := fun x hx => by
  have := h.gd _ (hc.2 x hx).1
  omega
theorem Low.len {n : Nat} {s : Sr} (h : Inv n s) {m : Nat} {c : List Int} (hc : Low n s m c) : c.length ≤ 2 * n := nodup_good hc.1 (hc.good h)
theorem Inv.at_ {n : Nat} {s : Sr} (h : Inv n s) {x : Int} (hx : -x ∈ s.L) : 0 ≤ at_L s.L x ∧ at_L s.L x < s.lv.length ∧ at_L s.L x < s.W.length ∧ at_L s.L x < s.L.length := by
  obtain ⟨h1, h2, _⟩ := place_at hx
  have := h.ll
  have := h.lw
  unfold at_L
  omega

theorem flat_len {b : Nat} : ∀ (ls : List (List Int)), (∀ c ∈ ls, c.length ≤ b) → ls.flatten.length ≤ ls.length * b
  | [], _ => by simp
  | c :: ls, h => by
    have h1 := flat_len ls (fun d hd => h d (List.mem_cons_of_mem _ hd))
    have h2 := h c (List.mem_cons_self ..)
    rw [List.flatten_cons, List.length_append, List.length_cons, Nat.add_mul]
    omega
theorem Inv.room {n : Nat} {s : Sr} (h : Inv n s) (hn : n ≤ 120) (hc : s.cl.length ≤ 2500) : s.L.length + Sp.room s.cl s.L ≤ 1000000 ∧ s.L.length ≤ n ∧ ∀ c ∈ s.cl, Cl c ∧ Fine c := by
  have h1 := room_le s.cl s.L
  have h2 := flat_len (b := 240) s.cl (fun c hc' => by
    have := nodup_good (h.cl c hc').2.1 (h.cl c hc').1
    omega)
  have h3 := h.ds.len h.gd
  refine ⟨by omega, h3, fun c hc' => ⟨(h.cl c hc').2, fun x hx => ?_⟩⟩
  have := (h.cl c hc').1 x hx
  omega

theorem Good.fine {n : Nat} {c : List Int} (h : Good n c) (hn : n ≤ 1000) : Fine c := fun x hx => by
  have := h x hx
  omega

def openAT (L asked : List Int) (i : Nat) : Int := openA L (asked.take i)
theorem openAT_new {L asked : List Int} {i : Nat} (hi : i < asked.length) (h0 : openAT L asked i = 0) (hz : ∀ x ∈ asked, x ≠ 0) (h : asked.getD i 0 ∉ L) : openAT L asked (i + 1) = asked.getD i 0 := by
  unfold openAT openA at *
  have h1 := find_zero (fun x hx => hz x (List.mem_of_mem_take hx)) h0
  rw [take_getD asked i 0 hi, List.find?_append, List.find?_eq_none.2 (fun y hy => by rw [h1 y hy]; decide), List.find?_cons_of_pos (by rw [decide_eq_false h]; rfl)]
  rfl
theorem openAT_old {L asked : List Int} {i : Nat} (hi : i < asked.length) (h : ¬ (openAT L asked i = 0 ∧ asked.getD i 0 ∉ L)) (hz : ∀ x ∈ asked, x ≠ 0) : openAT L asked (i + 1) = openAT L asked i := by
  unfold openAT openA at *
  rw [take_getD asked i 0 hi, List.find?_append]
  cases e : (asked.take i).find? fun l => !decide (l ∈ L) with
  | some x => simp
  | none =>
    have h2 : asked.getD i 0 ∈ L := Classical.byContradiction fun h3 => h ⟨by rw [e]; rfl, h3⟩
    rw [List.find?_cons_of_neg (by rw [decide_eq_true h2]; decide)]
    rfl
theorem openAT_all {L asked : List Int} {i : Nat} (h : asked.length ≤ i) : openAT L asked i = openA L asked := by unfold openAT; rw [List.take_of_length_le h]
theorem openAT_nil (L asked : List Int) : openAT L asked 0 = 0 := by simp [openAT, openA]

theorem denied_at {L asked : List Int} {i : Nat} (hi : i < asked.length) (h1 : ∀ x ∈ asked.take i, -x ∉ L) (h2 : -asked.getD i 0 ∈ L) : denied L asked = asked.getD i 0 := by
  unfold denied
  rw [find_at (z := 0) hi (fun y hy => decide_eq_false (h1 y hy)) (decide_eq_true h2)]
  rfl
theorem denied_no {L asked : List Int} {i : Nat} (hi : asked.length ≤ i) (h1 : ∀ x ∈ asked.take i, -x ∉ L) : denied L asked = 0 := by
  unfold denied
  rw [find_none hi (fun y hy => decide_eq_false (h1 y hy))]
  rfl

theorem range_snoc (j : Nat) : (List.range (j + 1)).map (fun i : Nat => (i : Int) + 1) = (List.range j).map (fun i : Nat => (i : Int) + 1) ++ [(j : Int) + 1] := by rw [List.range_succ, List.map_append]; rfl
theorem openV_new {L : List Int} {j : Nat} (h0 : openV L j = 0) (h : (j : Int) + 1 ∉ L ∧ -((j : Int) + 1) ∉ L) : openV L (j + 1) = (j : Int) + 1 := by
  unfold openV at *
  have h1 := find_zero (fun x hx => by have := vars_mem.1 hx; omega) h0
  rw [range_snoc, List.find?_append, List.find?_eq_none.2 (fun y hy => by rw [h1 y hy]; decide)]
  simp [h]
theorem openV_old {L : List Int} {j : Nat} (h : ¬ (openV L j = 0 ∧ (j : Int) + 1 ∉ L ∧ -((j : Int) + 1) ∉ L)) : openV L (j + 1) = openV L j := by
  unfold openV at *
  rw [range_snoc, List.find?_append]
  cases e : ((List.range j).map fun i : Nat => (i : Int) + 1).find? fun v => !decide (v ∈ L) && !decide (-v ∈ L) with
  | some x => simp
  | none =>
    have h2 : ¬ ((j : Int) + 1 ∉ L ∧ -((j : Int) + 1) ∉ L) := fun h3 => h ⟨by rw [e]; rfl, h3⟩
    have h3 : (!decide ((j : Int) + 1 ∈ L) && !decide (-((j : Int) + 1) ∈ L)) = false := by
      by_cases a : (j : Int) + 1 ∈ L
      · simp [a]
      · have b : -((j : Int) + 1) ∈ L := Classical.byContradiction fun b => h2 ⟨a, b⟩
        simp [b]
    rw [Option.none_or, List.find?_cons_of_neg (by rw [h3]; decide)]
    rfl
theorem openV_up {L : List Int} : ∀ {n j : Nat}, openV L j ≠ 0 → j ≤ n → openV L n = openV L j
  | 0, j, _, hj => by obtain rfl : j = 0 := by omega
                      rfl
  | n + 1, j, h, hj => by
    by_cases e : j = n + 1
    · rw [e]
    · have h1 := openV_up (n := n) h (by omega)
      rw [openV_old (fun h2 => h (by rw [← h1]; exact h2.1)), h1]
theorem openV_nil (L : List Int) : openV L 0 = 0 := by simp [openV]
theorem openV_rng (L : List Int) (n : Nat) : 0 ≤ openV L n ∧ openV L n ≤ n := by
  by_cases h : openV L n = 0
  · omega
  · have h1 : openV L n ∈ (List.range n).map (fun i : Nat => (i : Int) + 1) := (find_some h).1
    have := vars_mem.1 h1
    omega
theorem nextL_nil (ph : Bool) (L asked : List Int) : nextL ph L asked 0 = openA L asked := by
  unfold nextL
  by_cases h : openA L asked = 0
  · rw [if_neg (by omega), openV_nil, if_pos rfl, h]
  · rw [if_pos h]
theorem nextL_zero {ph : Bool} {L asked : List Int} {j : Nat} (h : nextL ph L asked j = 0) : openA L asked = 0 ∧ openV L j = 0 := by
  unfold nextL at h
  by_cases h1 : openA L asked = 0
  · refine ⟨h1, ?_⟩
    rw [if_neg (by omega)] at h
    by_cases h2 : openV L j = 0
    · exact h2
    · rw [if_neg h2] at h
      split at h <;> omega
  · rw [if_pos h1] at h; exact absurd h h1
theorem nextL_new {ph : Bool} {L asked : List Int} {j : Nat} (h : nextL ph L asked j = 0) (h2 : (j : Int) + 1 ∉ L ∧ -((j : Int) + 1) ∉ L) : nextL ph L asked (j + 1) = if ph = true then (j : Int) + 1 else -((j : Int) + 1) := by
  obtain ⟨h3, h4⟩ := nextL_zero h
  unfold nextL
  rw [if_neg (by omega), openV_new h4 h2, if_neg (by omega)]
theorem nextL_old {ph : Bool} {L asked : List Int} {j : Nat} (h : nextL ph L asked j = 0) (h2 : ¬ ((j : Int) + 1 ∉ L ∧ -((j : Int) + 1) ∉ L)) : nextL ph L asked (j + 1) = nextL ph L asked j := by
  unfold nextL
  rw [openV_old (fun h3 => h2 h3.2)]
theorem nextL_end {ph : Bool} {L asked : List Int} {n j : Nat} (hj : j ≤ n) (h : nextL ph L asked j ≠ 0 ∨ n ≤ j) : nextL ph L asked n = nextL ph L asked j := by
  rcases h with h | h
  · by_cases h1 : openA L asked = 0
    · have h2 : openV L j ≠ 0 := fun h2 => h (by unfold nextL; rw [if_neg (by omega), if_pos h2])
      unfold nextL
      rw [openV_up h2 hj]
    · unfold nextL
      rw [if_pos h1, if_pos h1]
  · obtain rfl : j = n := by omega
    rfl

def topT (s : Sr) (c : List Int) (i : Nat) : Int := (c.take i).foldl (topL s) 0
theorem topT_step {s : Sr} {c : List Int} {i : Nat} (h : i < c.length) : topT s c (i + 1) = topL s (topT s c i) (c.getD i 0) := by
  unfold topT
  rw [take_getD c i 0 h, List.foldl_append]
  rfl
theorem topT_all {s : Sr} {c : List Int} {i : Nat} (h : c.length ≤ i) : topT s c i = c.foldl (topL s) 0 := by unfold topT; rw [List.take_of_length_le h]
theorem nextL_bnd {ph : Bool} {L asked : List Int} {j : Nat} (h : ∀ x ∈ asked, x ≠ 0 ∧ -1000000000 ≤ x ∧ x ≤ 1000000000) (hj : j ≤ 1000000000) : -1000000000 ≤ nextL ph L asked j ∧ nextL ph L asked j ≤ 1000000000 := by
  have h2 := openV_rng L j
  unfold nextL
  by_cases h1 : openA L asked = 0
  · rw [if_neg (by omega)]
    split
    · omega
    · split <;> omega
  · rw [if_pos h1]
    exact (h _ (find_some h1).1).2

theorem keep_at {b : Int} : ∀ {lv : List Int} {i : Nat}, i ≤ lv.length → (∀ x ∈ lv.take i, x ≤ b) → (lv.length ≤ i ∨ b < lv.getD i 0) → keep lv b = i
  | [], i, h, _, _ => by
    have : i = 0 := by simpa using h
    rw [this]
    rfl
  | x :: lv, 0, _, _, h => by
    have h2 : b < x := by simpa using h
    unfold keep
    rw [List.takeWhile_cons_of_neg (by rw [decide_eq_true_eq]; omega)]
    rfl
  | x :: lv, i + 1, h, h1, h2 => by
    have h3 : x ≤ b := h1 x (by simp)
    have h4 := keep_at (b := b) (lv := lv) (i := i) (by simpa using h) (fun y hy => h1 y (by simp [hy])) (by simpa using h2)
    unfold keep at h4 ⊢
    rw [List.takeWhile_cons_of_pos (by simpa using h3), List.length_cons, h4]
theorem why_neg (s : Sr) (x : Int) : why s (-x) = s.cl.getD (s.W.getD (place s.L x).toNat 0).toNat [] := by unfold why at_L; rw [Int.neg_neg]
def grT (c : List Int) (x : Int) (sn : List Int) (i : Nat) : List Int := (c.take i).foldl (grow1 x) sn
theorem grT_all {c : List Int} {x : Int} {sn : List Int} {i : Nat} (h : c.length ≤ i) : grT c x sn i = c.foldl (grow1 x) sn := by unfold grT; rw [List.take_of_length_le h]
theorem grT_step {c : List Int} {x : Int} {sn : List Int} {i : Nat} (h : i < c.length) : grT c x sn (i + 1) = grow1 x (grT c x sn i) (c.getD i 0) := by
  unfold grT
  rw [take_getD c i 0 h, List.foldl_append]
  rfl
theorem grT_len {c : List Int} {x : Int} {sn : List Int} : ∀ i, sn.length ≤ (grT c x sn i).length ∧ (grT c x sn i).length ≤ sn.length + c.length := by
  intro i
  have key : ∀ (w sn : List Int), sn.length ≤ (w.foldl (grow1 x) sn).length ∧ (w.foldl (grow1 x) sn).length ≤ sn.length + w.length := by
    intro w
    induction w with
    | nil => intro sn; simp
    | cons y w ih =>
      intro sn
      rw [List.foldl_cons]
      have h1 := ih (grow1 x sn y)
      have h2 : sn.length ≤ (grow1 x sn y).length ∧ (grow1 x sn y).length ≤ sn.length + 1 := by
        unfold grow1
        split
        · simp
        · omega
      simp only [List.length_cons]
      omega
  have h := key (c.take i) sn
  have h2 : (c.take i).length ≤ c.length := List.length_take_le' _ _
  unfold grT
  omega
theorem coreF_end {s : Sr} {out sn : List Int} {j : Nat} (h : sn.length ≤ j) : ∀ m, coreF s m out sn j = out
  | 0 => rfl
  | m + 1 => by rw [coreF, if_neg (by omega)]
theorem coreF_dec {s : Sr} {m : Nat} {out sn : List Int} {j : Nat} (h : j < sn.length) (hw : s.W.getD (place s.L (sn.getD j 0)).toNat 0 < 0) : coreF s (m + 1) out sn j = coreF s m (if sn.getD j 0 ∈ out then out else out ++ [sn.getD j 0]) sn (j + 1) := by rw [coreF, if_pos h, if_pos hw]
theorem coreF_step {s : Sr} {m : Nat} {out sn : List Int} {j : Nat} (h : j < sn.length) (hw : ¬ s.W.getD (place s.L (sn.getD j 0)).toNat 0 < 0) : coreF s (m + 1) out sn j = coreF s m out ((why s (-(sn.getD j 0))).foldl (grow1 (sn.getD j 0)) sn) (j + 1) := by rw [coreF, if_pos h, if_neg hw]
theorem drop_at {l : List Int} {j : Nat} : (l.drop j).getD 0 0 = l.getD j 0 := by simp [List.getD]
theorem drop_drop1 (l : List Int) (j : Nat) : (l.drop j).drop 1 = l.drop (j + 1) := by rw [List.drop_drop]
theorem drop_snoc {l : List Int} {x : Int} {j : Nat} (h : j ≤ l.length) : l.drop j ++ [x] = (l ++ [x]).drop j := by rw [List.drop_append_of_le_length h]
theorem Inv.why_ok {n : Nat} {s : Sr} (h : Inv n s) {x : Int} (hx : x ∈ s.L) (hw : ¬ s.W.getD (place s.L x).toNat 0 < 0) : 0 ≤ s.W.getD (place s.L x).toNat 0 ∧ (s.W.getD (place s.L x).toNat 0).toNat < s.cl.length ∧ (why s (-x)).length ≤ 2 * n ∧ Good n (why s (-x)) := by
  obtain ⟨p1, p2, p3⟩ := place_at hx
  rcases h.re _ p2 with ⟨a, _⟩ | ⟨⟨a, b, _⟩, _⟩
  · omega
  · refine ⟨a, b, ?_⟩
    rw [why_neg]
    have hc := h.cl _ (getD_mem s.cl _ [] b)
    exact ⟨nodup_good hc.2.1 hc.1, hc.1⟩
def Dec (n : Nat) (asked : List Int) (ph : Bool) (s : Sr) (e : Nat) (s2 : Sr) (r : Bool × Int) : Prop :=
  (denied s.L asked ≠ 0 → 0 = e ∧ s = s2 ∧ (false, denied s.L asked) = r) ∧
  (denied s.L asked = 0 → nextL ph s.L asked n = 0 → 0 = e ∧ s = s2 ∧ (true, 0) = r) ∧
  (denied s.L asked = 0 → nextL ph s.L asked n ≠ 0 → 1 = e ∧ s.next (nextL ph s.L asked n) = s2 ∧ (false, 0) = r)

end Sp
end Go.Um

/- Plain laws: the search that learns, from its first step to its answer. No program in sight. No condition. -/



namespace Go.Um
namespace Sp

theorem cl_of {n : Int} {l : List Int} (h : (wrong n l).1 = 0) : Cl l := by
  obtain ⟨h1, h2⟩ := wrong_iff.1 h
  rw [List.pairwise_iff_getElem] at h2
  have key : ∀ i j (hi : i < l.length) (hj : j < l.length), av l[i] = av l[j] → i = j := by
    intro i j hi hj e
    rcases Nat.lt_trichotomy i j with h3 | h3 | h3
    · exact absurd e (h2 i j hi hj h3)
    · exact h3
    · exact absurd e.symm (h2 j i hj hi h3)
  refine ⟨?_, fun x hx => ⟨(h1 x hx).1, fun hx2 => ?_⟩⟩
  · rw [List.nodup_iff_pairwise_ne, List.pairwise_iff_getElem]
    intro i j hi hj hij e
    exact h2 i j hi hj hij (by rw [e])
  · obtain ⟨i, hi, e1⟩ := List.getElem_of_mem hx
    obtain ⟨j, hj, e2⟩ := List.getElem_of_mem hx2
    have h3 := key i j hi hj (by rw [e1, e2]; unfold av; omega)
    subst h3
    have := (h1 x hx).1
    omega

theorem bad_ok {n : Nat} {s : Sr} (h : Inv n s) (hb : 0 ≤ s.bad) : s.bad.toNat < s.cl.length ∧ ∀ x ∈ s.cl.getD s.bad.toNat [], -x ∈ s.run.L := by
  have h1 : 0 ≤ conf s.cl s.run.L ∧ s.bad = conf s.cl s.run.L := by
    rcases onV_end s.cl s.L s.W with h1 | h1
    · exact h1
    · have : s.bad = -1 := h1.2.2
      omega
  have h2 := idx_mem (p := fun c => falseIn c s.run.L 0) (l := s.cl) [] (by have h3 := h1.1; unfold conf at h3; omega)
  rw [h1.2]
  refine ⟨h2.1, fun x hx => ?_⟩
  exact (falseIn_iff (fun y hy => h.nz _ (getD_mem s.cl _ [] h2.1) y hy)).1 h2.2 x hx

def decE (n : Nat) (asked : List Int) (ph : Bool) (s : Sr) : Nat := if denied s.L asked ≠ 0 then 0 else if nextL ph s.L asked n = 0 then 0 else 1
def decS (n : Nat) (asked : List Int) (ph : Bool) (s : Sr) : Sr := if denied s.L asked ≠ 0 then s else if nextL ph s.L asked n = 0 then s else s.next (nextL ph s.L asked n)
def decR (n : Nat) (asked : List Int) (ph : Bool) (s : Sr) : Bool × Int := if denied s.L asked ≠ 0 then (false, denied s.L asked) else if nextL ph s.L asked n = 0 then (true, 0) else (false, 0)
theorem dec_ok (n : Nat) (asked : List Int) (ph : Bool) (s : Sr) : Dec n asked ph s (decE n asked ph s) (decS n asked ph s) (decR n asked ph s) := by
  refine ⟨fun h => ?_, fun h h2 => ?_, fun h h2 => ?_⟩
  · simp [decE, decS, decR, h]
  · simp [decE, decS, decR, h, h2]
  · simp [decE, decS, decR, h, h2]
theorem dec_a {n : Nat} {asked : List Int} {ph : Bool} {s : Sr} (h : (decR n asked ph s).2 ≠ 0) : denied s.L asked ≠ 0 ∧ decS n asked ph s = s ∧ decE n asked ph s = 0 ∧ (decR n asked ph s).2 = denied s.L asked := by
  have h1 : denied s.L asked ≠ 0 := fun h1 => h (by unfold decR; rw [if_neg (by omega)]; split <;> rfl)
  unfold decR decS decE
  rw [if_pos h1, if_pos h1, if_pos h1]
  exact ⟨h1, rfl, rfl, rfl⟩
theorem dec_b {n : Nat} {asked : List Int} {ph : Bool} {s : Sr} (h : (decR n asked ph s).2 = 0) (hz : denied s.L asked = 0 ∨ denied s.L asked ≠ 0) (h2 : (decR n asked ph s).1 = true) : denied s.L asked = 0 ∧ nextL ph s.L asked n = 0 ∧ decS n asked ph s = s ∧ decE n asked ph s = 0 := by
  unfold decR at h h2
  unfold decS decE
  by_cases h1 : denied s.L asked ≠ 0
  · rw [if_pos h1] at h2; cases h2
  · rw [if_neg h1] at h h2
    by_cases h3 : nextL ph s.L asked n = 0
    · rw [if_neg h1, if_neg h1, if_pos h3, if_pos h3]
      exact ⟨by omega, h3, rfl, rfl⟩
    · rw [if_neg h3] at h2; cases h2
theorem dec_c {n : Nat} {asked : List Int} {ph : Bool} {s : Sr} (h : (decR n asked ph s).2 = 0) (h2 : (decR n asked ph s).1 = false) : denied s.L asked = 0 ∧ nextL ph s.L asked n ≠ 0 ∧ decS n asked ph s = s.next (nextL ph s.L asked n) := by
  unfold decR at h h2
  unfold decS
  by_cases h1 : denied s.L asked ≠ 0
  · rw [if_pos h1] at h; exact absurd h h1
  · rw [if_neg h1] at h h2
    by_cases h3 : nextL ph s.L asked n = 0
    · rw [if_pos h3] at h2; cases h2
    · rw [if_neg h1, if_neg h3]
      exact ⟨by omega, h3, rfl⟩

section
variable {n : Nat} {asked : List Int} {ph : Bool} {fuel : Int} {m : Nat} {s : Sr} {used : Int}
theorem doF_spent (h : 0 ≤ s.bad) (h2 : used = fuel) : doF n asked ph fuel (m + 1) s used = (3, [], [], [], used) := by rw [doF, if_pos h, if_pos h2]
theorem doF_zero (h : 0 ≤ s.bad) (h2 : used ≠ fuel) (h3 : s.run.k = 0) : doF n asked ph fuel (m + 1) s used = noA s.run [] (used + 1) := by rw [doF, if_pos h, if_neg h2, if_pos h3]
theorem doF_learn (h : 0 ≤ s.bad) (h2 : used ≠ fuel) (h3 : s.run.k ≠ 0) : doF n asked ph fuel (m + 1) s used = doF n asked ph fuel m ((s.run.learn (ana s.run s.bad).1).back (ana s.run s.bad).2) (used + 1) := by rw [doF, if_pos h, if_neg h2, if_neg h3]
theorem doF_core (h : s.bad < 0) (h2 : denied s.run.L asked ≠ 0) : doF n asked ph fuel (m + 1) s used = noA s.run (coreC s.run (denied s.run.L asked)) used := by rw [doF, if_neg (by omega), if_pos h2]
theorem doF_yes (h : s.bad < 0) (h2 : denied s.run.L asked = 0) (h3 : nextL ph s.run.L asked n = 0) : doF n asked ph fuel (m + 1) s used = (1, holds n s.run.L, [], [], used) := by rw [doF, if_neg (by omega), if_neg (by omega), if_pos h3]
theorem doF_next (h : s.bad < 0) (h2 : denied s.run.L asked = 0) (h3 : nextL ph s.run.L asked n ≠ 0) : doF n asked ph fuel (m + 1) s used = doF n asked ph fuel m (s.run.next (nextL ph s.run.L asked n)) used := by rw [doF, if_neg (by omega), if_neg (by omega), if_neg h3]
end

def holdsT (n : Nat) (L : List Int) (i : Nat) : List Bool := (L.take i).foldl putB (List.replicate n false)
theorem holdsT_step {n : Nat} {L : List Int} {i : Nat} (h : i < L.length) : holdsT n L (i + 1) = putB (holdsT n L i) (L.getD i 0) := by
  unfold holdsT
  rw [take_getD L i 0 h, List.foldl_append]
  rfl
theorem putB_len : ∀ (L : List Int) (a : List Bool), (L.foldl putB a).length = a.length
  | [], _ => rfl
  | x :: L, a => by rw [List.foldl_cons, putB_len L, putB, List.length_set]
theorem holdsT_len (n : Nat) (L : List Int) (i : Nat) : (holdsT n L i).length = n := by
  unfold holdsT
  rw [putB_len, List.length_replicate]
theorem holdsT_all {n : Nat} {L : List Int} {i : Nat} (h : L.length ≤ i) : holdsT n L i = holds n L := by unfold holdsT; rw [List.take_of_length_le h]; rfl

def inO (x m : Int) : Bool := decide (0 ≤ x) && decide (x ≤ m)
def optW (a b c d fuel : Int) : Int × Int := if (inO a 1000 && inO b 1000000 && inO c 1000000 && inO d 2 && inO fuel 2000) = true then (0, 0) else (3, -1)
def noAns : Ans := (0, [], [], [], 0)
def doOf (n : Int) (ls : List (List Int)) (asked : List Int) (a b c d fuel : Int) : Ans × Int × Int :=
  if (beside n ls asked).1 ≠ 0 then (noAns, beside n ls asked)
  else if (optW a b c d fuel).1 ≠ 0 then (noAns, optW a b c d fuel)
  else (doA n.toNat ls asked (decide (d = 1)) fuel, 0, 0)
structure Fit (n : Nat) (ls : List (List Int)) (asked : List Int) : Prop where
  nn : n ≤ 120
  ll : ls.length ≤ 400
  cl : ∀ c ∈ ls, Good n c ∧ Cl c
  ga : Good n asked
  ca : Cl asked
theorem fit_of {n : Int} {ls : List (List Int)} {asked : List Int} (h : (beside n ls asked).1 = 0) : ∃ m : Nat, n = m ∧ Fit m ls asked := by
  unfold beside at h
  by_cases h1 : (check n ls).1 = 0
  · rw [if_pos h1] at h
    obtain ⟨⟨h2, h3⟩, h4, h5⟩ := check_ok h1
    obtain ⟨m, rfl⟩ : ∃ m : Nat, n = m := ⟨n.toNat, by omega⟩
    have h6 : (wrong m asked).1 = 0 := by
      unfold listed at h
      split at h
      · rename_i h6; exact absurd h h6
      · rename_i h6; exact Classical.byContradiction h6
    refine ⟨m, rfl, by omega, h4, fun c hc => ⟨fun x hx => ?_, cl_of (h5 c hc).2⟩, fun x hx => ?_, cl_of h6⟩
    · have := wrong_ok (h5 c hc).2 x hx; omega
    · have := wrong_ok h6 x hx; omega
  · rw [if_neg h1] at h; exact absurd h h1
theorem opt_fuel {a b c d fuel : Int} (h : (optW a b c d fuel).1 = 0) : (0 ≤ fuel ∧ fuel ≤ 2000) ∧ 0 ≤ d ∧ d ≤ 2 := by
  unfold optW at h
  split at h
  · rename_i h1
    simp only [inO, Bool.and_eq_true, decide_eq_true_eq] at h1
    omega
  · exact absurd h (by decide)
theorem doOf_bad {n : Int} {ls : List (List Int)} {asked : List Int} {a b c d fuel : Int} (h : ¬ (beside n ls asked).1 = 0) : doOf n ls asked a b c d fuel = (noAns, beside n ls asked) := by rw [doOf, if_pos h]
theorem doOf_opt {n : Int} {ls : List (List Int)} {asked : List Int} {a b c d fuel : Int} (h : (beside n ls asked).1 = 0) (h2 : ¬ (optW a b c d fuel).1 = 0) : doOf n ls asked a b c d fuel = (noAns, optW a b c d fuel) := by rw [doOf, if_neg (fun h3 => h3 h), if_pos h2]
theorem doOf_go {m : Nat} {ls : List (List Int)} {asked : List Int} {a b c d fuel : Int} (h : (beside m ls asked).1 = 0) (h2 : (optW a b c d fuel).1 = 0) : doOf m ls asked a b c d fuel = (doA m ls asked (decide (d = 1)) fuel, 0, 0) := by rw [doOf, if_neg (fun h3 => h3 h), if_neg (fun h3 => h3 h2)]; rfl
theorem do_start {m : Nat} {ls : List (List Int)} {asked : List Int} {ph : Bool} {fuel : Int} (h : Fit m ls asked) (hf : 0 ≤ fuel ∧ fuel ≤ 2000) :
    doF m asked ph fuel ((fuel.toNat + 1) * (m + 2) + 1) (start ls) 0 = doA m ls asked ph fuel ∧ Inv m (start ls) ∧ ((start ls).cl.length = ls.length + (start ls).st.length ∧ ((start ls).st.length : Int) ≤ 0 ∧ 0 ≤ fuel) ∧
    (fuel - 0) * ((m : Int) + 2) + ((m : Int) + 1 - (start ls).L.length) < ((fuel.toNat + 1) * (m + 2) + 1 : Nat) ∧ (start ls).k + ((fuel.toNat + 1) * (m + 2) + 1 : Nat) ≤ ((fuel.toNat + 1) * (m + 2) + 1 : Nat) := by
  refine ⟨rfl, Inv.start h.cl, ⟨by simp [start], by simp [start], hf.1⟩, ?_, by simp [start]⟩
  obtain ⟨f, rfl⟩ : ∃ f : Nat, fuel = f := ⟨fuel.toNat, by omega⟩
  simp only [start, List.length_nil, Int.toNat_natCast, Int.sub_zero]
  have e : ((f + 1) * (m + 2) + 1 : Nat) = (f : Int) * ((m : Int) + 2) + ((m : Int) + 2) + 1 := by
    have e2 : ((f * (m + 2) : Nat) : Int) = (f : Int) * ((m : Int) + 2) := by
      rw [Int.natCast_mul, Int.natCast_add]
      rfl
    rw [Nat.add_mul, Nat.one_mul]
    omega
  rw [e]
  omega
theorem core_good {n : Nat} {s : Sr} (hi : Inv n s) {l : Int} (hn : -l ∈ s.L) : Good n (coreC s l) ∧ (coreC s l).length ≤ 2 * n := by
  obtain ⟨sn, h⟩ := SeenC.end hi (s.L.length + 1) (SeenC.begin hn) (by omega)
  have hp : (coreC s l).Perm (coreF s (s.L.length + 1) [l] [-l] 0) := List.mergeSort_perm _ _
  have hg : Good n (coreC s l) := fun x hx => by
    rcases h.oo x (hp.mem_iff.1 hx) with h1 | h1
    · have := hi.gd _ hn
      subst h1
      omega
    · exact hi.gd _ h1.1
  exact ⟨hg, nodup_good (hp.nodup_iff.2 h.od) hg⟩
theorem denied_mem {L asked : List Int} (h : denied L asked ≠ 0) : denied L asked ∈ asked ∧ -denied L asked ∈ L := by
  obtain ⟨h1, h2⟩ := find_some h
  exact ⟨h1, of_decide_eq_true h2⟩
theorem ana_bk {n : Nat} {s : Sr} (h : Inv n s) {bad : Int} (hb : bad.toNat < s.cl.length) (hf : ∀ x ∈ s.cl.getD bad.toNat [], -x ∈ s.L) : 0 ≤ (ana s bad).2 ∧ (ana s bad).2 ≤ s.k ∧ (Good n (ana s bad).1 ∧ Cl (ana s bad).1) ∧ (ana s bad).1.length ≤ 2 * n := by
  obtain ⟨h1, h2, ⟨h3, h4⟩, h5, h6⟩ := ana_ok h hb hf
  refine ⟨h3, ?_, h1, nodup_good h1.2.1 h1.1⟩
  have := h.k0
  rcases h4 with h4 | ⟨l, _, h5, h6⟩ <;> omega
end Sp
end Go.Um

/- Plain laws: what the search answers. No program in sight. No condition. -/

namespace Go.Um
namespace Sp

theorem lit_putB {a : List Bool} {x : Int} (h0 : x ≠ 0) (h : -(a.length : Int) ≤ x ∧ x ≤ a.length) : lit (putB a x) x = true := by
  unfold lit putB
  by_cases h1 : 0 < x
  · rw [if_pos h1, show max x (-x) = x by omega, List.getD_eq_getElem?_getD, List.getElem?_set_self (by omega)]
    simpa using h1
  · rw [if_neg h1, show max x (-x) - 1 = -x - 1 by omega, List.getD_eq_getElem?_getD, List.getElem?_set_self (by omega)]
    simpa using h1
theorem lit_putB_ne {a : List Bool} {x y : Int} (h0 : x ≠ 0) (hy : y ≠ 0) (h : av x ≠ av y) : lit (putB a y) x = lit a x := by
  unfold av at h
  unfold lit putB
  by_cases h1 : 0 < x
  · rw [if_pos h1, if_pos h1, List.getD_eq_getElem?_getD, List.getD_eq_getElem?_getD, List.getElem?_set_ne (by omega)]
  · rw [if_neg h1, if_neg h1, List.getD_eq_getElem?_getD, List.getD_eq_getElem?_getD, List.getElem?_set_ne (by omega)]
theorem lit_fold {n : Nat} : ∀ (L : List Int) (a : List Bool), a.length = n → Good n L → L.Pairwise (fun x y => av x ≠ av y) →
    (∀ x ∈ L, lit (L.foldl putB a) x = true) ∧ ∀ x, x ≠ 0 → (∀ y ∈ L, av y ≠ av x) → lit (L.foldl putB a) x = lit a x
  | [], a, _, _, _ => ⟨fun x hx => (nomatch hx), fun x _ _ => rfl⟩
  | y :: L, a, ha, hG, hp => by
    rw [List.pairwise_cons] at hp
    have hy := hG y (List.mem_cons_self ..)
    obtain ⟨h1, h2⟩ := lit_fold L (putB a y) (by rw [putB, List.length_set, ha]) (fun z hz => hG z (List.mem_cons_of_mem _ hz)) hp.2
    rw [List.foldl_cons]
    refine ⟨fun x hx => ?_, fun x hx0 hx => ?_⟩
    · rcases List.mem_cons.1 hx with rfl | hx
      · rw [h2 x hy.1 (fun z hz => (hp.1 z hz).symm)]
        exact lit_putB hy.1 (by omega)
      · exact h1 x hx
    · rw [h2 x hx0 (fun z hz => hx z (List.mem_cons_of_mem _ hz)), lit_putB_ne hx0 hy.1 (hx y (List.mem_cons_self ..)).symm]
theorem Dist.apart {L : List Int} (h : Dist L) : L.Pairwise fun x y => av x ≠ av y := by
  rw [List.pairwise_iff_getElem]
  intro i j hi hj hij e
  obtain ⟨h1, h2⟩ := h j hj
  have e1 : L.getD j 0 = L[j] := by simp [List.getD, hj]
  have hm : L[i] ∈ L.take j := mem_take.2 ⟨i, hij, hi, by simp [List.getD, hi]⟩
  rw [e1] at h1 h2
  unfold av at e
  have : L[i] = L[j] ∨ L[i] = -L[j] := by omega
  rcases this with h3 | h3
  · exact h1 (h3 ▸ hm)
  · exact h2 (h3 ▸ hm)
theorem holds_lit {n : Nat} {L : List Int} (hG : Good n L) (hd : Dist L) : ∀ x ∈ L, lit (holds n L) x = true := (lit_fold L (List.replicate n false) List.length_replicate hG hd.apart).1
theorem holds_len (n : Nat) (L : List Int) : (holds n L).length = n := by
  rw [← holdsT_all (i := L.length) (Nat.le_refl _), holdsT_len]

def negL (c : List Int) : List Int := c.map fun x => -x
theorem negL_ok {n : Nat} {ls : List (List Int)} {asked core : List Int} (hfit : Fit n ls asked) (h2 : core.Pairwise fun x y => x < y) (h3 : ∀ x ∈ core, x ∈ asked) : Good n (negL core) ∧ Cl (negL core) := by
  refine ⟨fun x hx => ?_, ?_, fun x hx => ?_⟩
  · obtain ⟨y, hy, rfl⟩ := List.mem_map.1 hx
    have := hfit.ga y (h3 y hy)
    omega
  · unfold negL
    rw [List.nodup_iff_pairwise_ne, List.pairwise_map]
    exact h2.imp fun h => by omega
  · obtain ⟨y, hy, rfl⟩ := List.mem_map.1 hx
    have := hfit.ga y (h3 y hy)
    refine ⟨by omega, fun h => ?_⟩
    obtain ⟨z, hz, e⟩ := List.mem_map.1 h
    have e2 : -y = z := by omega
    exact (hfit.ca.2 y (h3 y hy)).2 (e2 ▸ h3 z hz)
structure OutY (n : Nat) (ls : List (List Int)) (asked : List Int) (A : Ans) : Prop where
  st : A.1 = 1
  len : A.2.1.length = n
  no : A.2.2.1 = [] ∧ A.2.2.2.1 = []
  ls : all A.2.1 ls = true
  asked : ∀ x ∈ asked, lit A.2.1 x = true
structure OutN (n : Nat) (ls : List (List Int)) (asked : List Int) (A : Ans) : Prop where
  st : A.1 = 2
  no : A.2.1 = []
  ch : Chain ls A.2.2.1
  la : ∃ st, A.2.2.1 = st ++ [negL A.2.2.2.1] ∧ (st.length : Int) ≤ A.2.2.2.2
  up : A.2.2.2.1.Pairwise fun x y => x < y
  sub : ∀ x ∈ A.2.2.2.1, x ∈ asked
  zero : asked = [] → A.2.2.2.1 = []
  good : ∀ c ∈ A.2.2.1, Good n c ∧ Cl c
structure OutH (fuel : Int) (A : Ans) : Prop where
  st : A.1 = 3
  no : A.2.1 = [] ∧ A.2.2.1 = [] ∧ A.2.2.2.1 = []
  us : A.2.2.2.2 = fuel
def Out (n : Nat) (ls : List (List Int)) (asked : List Int) (fuel : Int) (A : Ans) : Prop := (OutY n ls asked A ∨ OutN n ls asked A ∨ OutH fuel A) ∧ 0 ≤ A.2.2.2.2 ∧ A.2.2.2.2 ≤ fuel

theorem level_zero {n : Nat} {s : Sr} (h : Inv n s) (hk : s.k = 0) {bad : Int} (hb : bad.toNat < s.cl.length) (hf : ∀ x ∈ s.cl.getD bad.toNat [], -x ∈ s.L) : Rup s.cl [] := by
  intro T hT _
  obtain ⟨x, hx, hx2⟩ := (hT _ (getD_mem s.cl bad.toNat [] hb)).1
  obtain ⟨j, hj, e⟩ := memV_getD.1 (hf x hx)
  refine hx2 (e ▸ h.zero hT j hj ?_)
  have := h.tp j hj
  omega

theorem doF_ok {n : Nat} {ls : List (List Int)} {asked : List Int} {ph : Bool} {fuel : Int} (hfit : Fit n ls asked) : ∀ (q : Nat) (s : Sr) (used : Int), Head n asked ls s → (s.st.length : Int) ≤ used ∧ used ≤ fuel → (fuel - used) * ((n : Int) + 2) + ((n : Int) + 1 - s.L.length) < q → Out n ls asked fuel (doF n asked ph fuel q s used)
  | 0, s, used, h, hu, hm => by
    have hmul : 0 ≤ (fuel - used) * ((n : Int) + 2) := Int.mul_nonneg (by omega) (by omega)
    have := h.inv.ds.len h.inv.gd
    omega
  | q + 1, s, used, h, hu, hm => by
    have hr := h.run
    have hlen := hr.inv.ds.len hr.inv.gd
    have hle : s.L.length ≤ s.run.L.length := (on_len s.cl s.L s.W).1
    have hst : s.run.st = s.st := rfl
    by_cases hb : 0 ≤ s.bad
    · obtain ⟨b1, b2⟩ := bad_ok h.inv hb
      by_cases hf : used = fuel
      · rw [doF_spent hb hf]
        exact ⟨.inr (.inr ⟨rfl, ⟨rfl, rfl, rfl⟩, hf⟩), by show 0 ≤ used; omega, by show used ≤ fuel; omega⟩
      · by_cases hk : s.run.k = 0
        · rw [doF_zero hb hf hk]
          have hz := level_zero hr.inv hk b1 b2
          rw [hr.cl] at hz
          refine ⟨.inr (.inl ⟨rfl, rfl, hr.ch.snoc hz, ⟨s.run.st, rfl, by show (s.st.length : Int) ≤ used + 1; omega⟩, List.Pairwise.nil, fun x hx => (nomatch hx), fun _ => rfl, fun c hc => ?_⟩), by show 0 ≤ used + 1; omega, by show used + 1 ≤ fuel; omega⟩
          rcases List.mem_append.1 hc with h1 | h1
          · exact hr.inv.cl c (by rw [hr.cl]; exact List.mem_append_right _ h1)
          · rw [List.mem_singleton.1 h1]
            exact ⟨fun x hx => (nomatch hx), List.nodup_nil, fun x hx => (nomatch hx)⟩
        · rw [doF_learn hb hf hk]
          have hk0 := hr.inv.k0
          refine doF_ok hfit q _ _ (hr.taught (by omega) b1 b2) ⟨?_, by omega⟩ ?_
          · show ((s.st ++ [_]).length : Int) ≤ used + 1
            rw [List.length_append, List.length_singleton]
            omega
          · have e : (fuel - (used + 1)) * ((n : Int) + 2) = (fuel - used) * ((n : Int) + 2) - ((n : Int) + 2) := by
              rw [show fuel - (used + 1) = (fuel - used) - 1 by omega, Int.sub_mul, Int.one_mul]
            rw [e]
            omega
    · have hsh : Shut s.run.cl s.run.L := on_shut h.inv.nz (show s.bad < 0 by omega)
      by_cases hd : denied s.run.L asked = 0
      · by_cases hx : nextL ph s.run.L asked n = 0
        · rw [doF_yes (by omega) hd hx]
          obtain ⟨d1, d2⟩ := done_all hfit.ga hx
          have hlit := holds_lit hr.inv.gd hr.inv.ds
          refine ⟨.inl ⟨rfl, holds_len _ _, ⟨rfl, rfl⟩, all_iff.2 fun c hc => ?_, fun x hx => hlit x (d1 x hx)⟩, by show 0 ≤ used; omega, hu.2⟩
          have hc' : c ∈ s.run.cl := by rw [hr.cl]; exact List.mem_append_left _ hc
          obtain ⟨x, hx1, hx2⟩ := (hsh c hc').1
          have hg := (hfit.cl c hc).1 x hx1
          refine ⟨x, hx1, hlit x ?_⟩
          by_cases h0 : 0 < x
          · rcases d2 x (by omega) (by omega) with h1 | h1
            · exact h1
            · exact absurd h1 hx2
          · rcases d2 (-x) (by omega) (by omega) with h1 | h1
            · exact absurd h1 hx2
            · rwa [Int.neg_neg] at h1
        · rw [doF_next (by omega) hd hx]
          obtain ⟨n1, n2, n3, n4⟩ := next_ok hfit.ga hd hx
          refine doF_ok hfit q _ _ (hr.next hsh n1 n2 n3 n4) hu ?_
          show (fuel - used) * ((n : Int) + 2) + ((n : Int) + 1 - (s.run.L ++ [nextL ph s.run.L asked n]).length) < q
          rw [List.length_append, List.length_singleton]
          omega
      · rw [doF_core (by omega) hd]
        obtain ⟨m1, m2⟩ := denied_mem hd
        obtain ⟨c1, c2, c3⟩ := core_ok hr.inv hfit.ca hr.dec m1 m2
        rw [hr.cl] at c1
        refine ⟨.inr (.inl ⟨rfl, rfl, hr.ch.snoc c1, ⟨s.run.st, rfl, hu.1⟩, c2, c3, fun e => ?_, fun c hc => ?_⟩), by show 0 ≤ used; omega, hu.2⟩
        · rw [e] at m1
          cases m1
        · rcases List.mem_append.1 hc with h1 | h1
          · exact hr.inv.cl c (by rw [hr.cl]; exact List.mem_append_right _ h1)
          · rw [List.mem_singleton.1 h1]
            exact negL_ok hfit c2 c3

theorem do_ok {n : Nat} {ls : List (List Int)} {asked : List Int} {ph : Bool} {fuel : Int} (hfit : Fit n ls asked) (hf : 0 ≤ fuel ∧ fuel ≤ 2000) : Out n ls asked fuel (doA n ls asked ph fuel) := by
  obtain ⟨h1, _, ⟨_, h3, h4⟩, h5, _⟩ := do_start (ph := ph) hfit hf
  rw [← h1]
  exact doF_ok hfit _ _ _ (Head.start hfit.cl) ⟨h3, h4⟩ h5

theorem chain_all {ls : List (List Int)} (hz : Nz ls) {a : List Bool} (ha : all a ls = true) : ∀ (st : List (List Int)), (∀ c ∈ st, ∀ x ∈ c, x ≠ 0) → Chain ls st → ∀ c ∈ st, sat a c = true := by
  intro st hs hc
  have key : ∀ i, i ≤ st.length → all a (ls ++ st.take i) = true := by
    intro i
    induction i with
    | zero => intro _; simpa using ha
    | succ i ih =>
      intro hi
      have h1 := ih (by omega)
      have hm := getD_mem st i [] (by omega)
      have h2 := rup_sound (ls := ls ++ st.take i) (fun c hc' x hx => (List.mem_append.1 hc').elim (fun h => hz c h x hx) (fun h => hs c (List.mem_of_mem_take h) x hx)) (hs _ hm) (hc i (by omega)) h1
      rw [take_getD st i [] (by omega), ← List.append_assoc]
      unfold all at h1 ⊢
      rw [List.all_append, h1]
      simpa using h2
  intro c hc'
  have h1 := key st.length (Nat.le_refl _)
  rw [List.take_length] at h1
  unfold all at h1
  rw [List.all_eq_true] at h1
  exact h1 c (List.mem_append_right _ hc')
end Sp
end Go.Um

/- Plain laws: of few variables and clauses the search ends. No program in sight. No condition. -/

namespace Go.Um
namespace Sp

def num : Nat → List Int → Nat
  | 0, _ => 0
  | _ + 1, [] => 0
  | e + 1, w :: W => (if w = -1 then 2 ^ e else 0) + num e W
theorem num_nil (e : Nat) : num e [] = 0 := by cases e <;> rfl
theorem num_app : ∀ (e : Nat) (V W : List Int), V.length ≤ e → num e (V ++ W) = num e V + num (e - V.length) W
  | e, [], W, _ => by rw [num_nil]; simp
  | 0, v :: V, W, h => by simp at h
  | e + 1, v :: V, W, h => by
    rw [List.cons_append, num, num, num_app e V W (by simpa using h), List.length_cons, Nat.add_sub_add_right, Nat.add_assoc]
theorem num_pos : ∀ (e : Nat) (W : List Int), (∀ w ∈ W, 0 ≤ w) → num e W = 0
  | 0, _, _ => rfl
  | e + 1, [], _ => rfl
  | e + 1, w :: W, h => by
    rw [num, if_neg (by have := h w (List.mem_cons_self ..); omega), num_pos e W (fun x hx => h x (List.mem_cons_of_mem _ hx))]
theorem num_mod : ∀ (e : Nat) (W : List Int), W.getD e 0 ≠ -1 → W.getD (e + 1) 0 ≠ -1 → num (e + 2) W % 4 = 0
  | _, [], _, _ => by rw [num_nil]
  | 0, [w], h, _ => by
    have h' : ¬ w = -1 := h
    rw [num, if_neg h', num_nil]
  | 0, w :: v :: W, h, h2 => by
    have h' : ¬ w = -1 := h
    have h2' : ¬ v = -1 := h2
    rw [num, if_neg h', num, if_neg h2', num]
  | e + 1, w :: W, h, h2 => by
    have := num_mod e W (by simpa using h) (by simpa using h2)
    rw [num]
    have e2 : 2 ^ (e + 2) = 4 * 2 ^ e := by rw [Nat.pow_add]; omega
    split <;> omega
theorem num_at {e p : Nat} {W : List Int} (hp : p < W.length) (he : W.length ≤ e + 1) (h : W.getD p 0 = -1) : num (e + 1) (W.take p) + 2 ^ (e - p) ≤ num (e + 1) W := by
  have h1 : W.take p ++ W.drop p = W := List.take_append_drop p W
  have h2 := num_app (e + 1) (W.take p) (W.drop p) (by rw [List.length_take]; omega)
  rw [h1, List.length_take, Nat.min_eq_left (by omega), List.drop_eq_getElem_cons hp, show e + 1 - p = (e - p) + 1 by omega, num] at h2
  have h3 : W[p] = -1 := by simpa [List.getD, hp] using h
  rw [if_pos h3] at h2
  omega

theorem last_not {n : Nat} {asked : List Int} {ls : List (List Int)} {s : Sr} (h : Head n asked ls s) (hk : 1 ≤ s.k) {c : List Int} (hc : c ∈ s.cl) (hf : ∀ x ∈ c, -x ∈ s.L) {i : Nat} (hi : i < s.L.length) (hw : s.W.getD i 0 = -1) : i + 1 < s.L.length := by
  obtain ⟨x, hx, y, hy, hne, hxk, hyk⟩ := h.two hk hc hf
  obtain ⟨p1, p2, p3⟩ := place_at (hf x hx)
  obtain ⟨q1, q2, q3⟩ := place_at (hf y hy)
  rcases h.inv.re i hi with ⟨_, _, h1⟩ | ⟨⟨h1, _⟩, _⟩
  · refine Classical.byContradiction fun h2 => hne ?_
    have key : ∀ j, j < s.L.length → s.lv.getD j 0 = s.k → j = i := fun j hj e => by
      have h3 : ¬ j < i := fun h3 => by
        have h4 := h1 j h3
        have h5 := (h.inv.tp i hi).2
        omega
      omega
    have e1 := key _ p2 hxk
    have e2 := key _ q2 hyk
    have e3 : -y = -x := by rw [← p3, ← q3, e1, e2]
    omega
  · omega

theorem num_four {n : Nat} {asked : List Int} {ls : List (List Int)} {s : Sr} (h : Head n asked ls s) (hn : n ≤ 12) (hk : 1 ≤ s.k) {c : List Int} (hc : c ∈ s.cl) (hf : ∀ x ∈ c, -x ∈ s.L) (hA : s.W.getD 10 0 ≠ -1) : num 12 s.W % 4 = 0 := by
  refine num_mod 10 s.W hA fun h2 => ?_
  have hl := h.inv.ds.len h.inv.gd
  have hlw := h.inv.lw
  have h3 : 11 < s.L.length := Classical.byContradiction fun h3 => by
    rw [List.getD_eq_getElem?_getD, List.getElem?_eq_none (by omega)] at h2
    cases h2
  have := last_not h hk hc hf h3 h2
  omega

theorem back_at {n : Nat} {s : Sr} (h : Inv n s) {b : Int} (h0 : 0 ≤ b) (hb : b < s.k) : keep s.lv b < s.L.length ∧ s.W.getD (keep s.lv b) 0 = -1 := by
  have hlt : keep s.lv b < s.L.length := by
    rcases h.kk with h1 | ⟨j, hj, e⟩
    · omega
    · refine Classical.byContradiction fun h2 => ?_
      have := keep_in (lv := s.lv) (b := b) (i := j) (by omega)
      omega
  have ho := keep_out (lv := s.lv) (b := b) (by rw [h.ll]; exact hlt)
  refine ⟨hlt, ?_⟩
  rcases h.re _ hlt with ⟨h1, _⟩ | ⟨_, h1 | ⟨j, hj, e⟩⟩
  · exact h1
  · omega
  · have := keep_in (lv := s.lv) (b := b) hj
    omega

theorem back_unit {n : Nat} {asked : List Int} {ls : List (List Int)} {s : Sr} (h : Head n asked ls s) (hk : 1 ≤ s.k) {bad : Int} (hb : bad.toNat < s.cl.length) (hf : ∀ x ∈ s.cl.getD bad.toNat [], -x ∈ s.L) :
    conf (s.cl ++ [(ana s bad).1]) (s.L.take (keep s.lv (ana s bad).2)) < 0 ∧ ¬ unit (s.cl ++ [(ana s bad).1]) (s.L.take (keep s.lv (ana s bad).2)) < 0 := by
  obtain ⟨h1, h2, ⟨h3, h4⟩, h5, h6⟩ := ana_ok h.inv hb hf
  obtain ⟨hlt, z, hz, hz2, hz3⟩ := taught_one h hk hb hf
  have hT := h.sh (ana s bad).2 h3 hlt
  have hzn : -z ∉ s.L.take (keep s.lv (ana s bad).2) := fun hm => by
    obtain ⟨j, j1, j2, j3⟩ := mem_take.1 hm
    obtain ⟨p1, p2, p3⟩ := place_at (h2 z hz).1
    have e := h.inv.ds.inj j2 p2 (by rw [j3, p3])
    have h7 := keep_in (lv := s.lv) (b := (ana s bad).2) j1
    rw [e] at h7
    have h8 : s.lv.getD (place s.L (-z)).toNat 0 = s.k := hz2
    omega
  have hNz : Nz (s.cl ++ [(ana s bad).1]) := fun c hc x hx => (List.mem_append.1 hc).elim (fun h7 => h.inv.nz c h7 x hx) (fun h7 => by rw [List.mem_singleton.1 h7] at hx; exact (h1.1 x hx).1)
  refine ⟨Classical.byContradiction fun h7 => ?_, ?_⟩
  · obtain ⟨_, c2, c3⟩ := conf_at (T := s.L.take (keep s.lv (ana s bad).2)) hNz (by omega)
    rcases List.mem_append.1 c2 with h8 | h8
    · obtain ⟨x, hx, hx2⟩ := (hT _ h8).1
      exact hx2 (c3 x hx)
    · rw [List.mem_singleton.1 h8] at c3
      exact hzn (c3 z hz)
  · have e : (s.cl ++ [(ana s bad).1]).getD s.cl.length [] = (ana s bad).1 := by simp [List.getD]
    have := unit_le (ls := s.cl ++ [(ana s bad).1]) (T := s.L.take (keep s.lv (ana s bad).2)) (j := s.cl.length) (by simp) (l := z) (by rw [e]; exact hz) (h1.1 z hz).1 (fun y hy hne => by
      rw [e] at hy
      obtain ⟨p1, p2, p3⟩ := place_at (h2 y hy).1
      exact mem_take.2 ⟨_, (h.inv.keep p2).2 (hz3 y hy hne), p2, p3⟩) (fun hm => by
      have h8 := h.inv.ds.neg h.inv.lz (List.mem_of_mem_take hm)
      exact h8 (h2 z hz).1) hzn
    omega
theorem run_one {s : Sr} (h1 : conf s.cl s.L < 0) (h2 : ¬ unit s.cl s.L < 0) : ∃ e f, s.run.L = (s.L ++ [must (s.cl.getD (unit s.cl s.L).toNat []) s.L]) ++ e ∧ s.run.W = (s.W ++ [unit s.cl s.L]) ++ f ∧ e.length = f.length := by
  have h3 : on s.cl s.L s.W = on s.cl (s.L ++ [must (s.cl.getD (unit s.cl s.L).toNat []) s.L]) (s.W ++ [unit s.cl s.L]) := by rw [on, if_neg (by omega), dif_neg h2]
  obtain ⟨e, f, a, b, c, _⟩ := on_ext s.cl (s.L ++ [must (s.cl.getD (unit s.cl s.L).toNat []) s.L]) (s.W ++ [unit s.cl s.L])
  exact ⟨e, f, by show (on s.cl s.L s.W).1 = _; rw [h3]; exact a, by show (on s.cl s.L s.W).2.1 = _; rw [h3]; exact b, c⟩

theorem total {n : Nat} {L : List Int} (hd : Dist L) (hG : Good n L) (hl : L.length = n) {x : Int} (hx : x ≠ 0 ∧ -(n : Int) ≤ x ∧ x ≤ n) : x ∈ L ∨ -x ∈ L := by
  refine Classical.byContradiction fun h => ?_
  have h1 : x ∉ L := fun h1 => h (.inl h1)
  have h2 : -x ∉ L := fun h2 => h (.inr h2)
  have := (hd.snoc h1 h2).len (n := n) (fun y hy => (List.mem_append.1 hy).elim (hG y) (fun h3 => by rw [List.mem_singleton.1 h3]; exact hx))
  rw [List.length_append, List.length_singleton] at this
  omega

theorem orig {n : Nat} {ls st : List (List Int)} {L : List Int} (hc : ∀ c ∈ ls ++ st, Good n c) (ch : Chain ls st) (hd : Dist L) (hG : Good n L) (hl : L.length = n) {c : List Int} (hm : c ∈ ls ++ st) (hf : ∀ x ∈ c, -x ∈ L) : ∃ j, j < ls.length ∧ ∀ x ∈ ls.getD j [], -x ∈ L := by
  have hlit := holds_lit hG hd
  have hz : Nz ls := fun c h x hx => (hc c (List.mem_append_left _ h) x hx).1
  refine Classical.byContradiction fun hno => ?_
  have ha : all (holds n L) ls = true := all_iff.2 fun d hd' => by
    obtain ⟨j, hj, e⟩ := List.getElem_of_mem hd'
    refine Classical.byContradiction fun h1 => hno ⟨j, hj, fun x hx => ?_⟩
    have e2 : ls.getD j [] = d := by simp [List.getD, hj, e]
    rw [e2] at hx
    rcases total hd hG hl (hc d (List.mem_append_left _ hd') x hx) with h2 | h2
    · exact absurd ⟨x, hx, hlit x h2⟩ h1
    · exact h2
  have hs : sat (holds n L) c = true := by
    rcases List.mem_append.1 hm with h1 | h1
    · exact sat_iff.2 (all_iff.1 ha c h1)
    · exact chain_all hz ha st (fun c h x hx => (hc c (List.mem_append_right _ h) x hx).1) ch c h1
  obtain ⟨x, hx, hx2⟩ := sat_iff.1 hs
  have h1 := hlit _ (hf x hx)
  rw [litV_neg (hc c hm x hx).1, hx2] at h1
  cases h1

theorem getD_appL {ls st : List (List Int)} {j : Nat} (h : j < ls.length) : (ls ++ st).getD j [] = ls.getD j [] := by simp [List.getD, List.getElem?_append_left h]

theorem getD_cl {cl ls st : List (List Int)} {j : Nat} (e : cl = ls ++ st) (h : j < ls.length) : cl.getD j [] = ls.getD j [] := by rw [e, getD_appL h]

theorem two_end {n : Nat} {asked : List Int} {ls : List (List Int)} {s : Sr} (h : Head n asked ls s) (hn : n ≤ 12) (h12 : s.L.length = 12 → s.W.getD 11 0 = -1) (hb : 0 ≤ s.bad) (hk : 1 ≤ s.run.k) (hA : s.run.W.getD 10 0 = -1) :
    s.L.length = 11 ∧ n = 12 ∧ conf s.cl s.L < 0 ∧ ¬ unit s.cl s.L < 0 ∧ s.run.L = s.L ++ [must (s.cl.getD (unit s.cl s.L).toNat []) s.L] ∧ s.run.W = s.W ++ [unit s.cl s.L] := by
  have hr := h.run
  obtain ⟨b1, b2⟩ := bad_ok h.inv hb
  have hc := getD_mem s.cl s.bad.toNat [] b1
  have hl := hr.inv.ds.len hr.inv.gd
  have hlw := hr.inv.lw
  have hlw0 := h.inv.lw
  obtain ⟨e, f, e1, e2, e3, e4⟩ := run_ext s
  have h10 : 10 < s.run.L.length := Classical.byContradiction fun h3 => by
    rw [List.getD_eq_getElem?_getD, List.getElem?_eq_none (by omega)] at hA
    cases hA
  have h11 := last_not hr hk (c := s.cl.getD s.bad.toNat []) hc b2 h10 hA
  have hL : s.run.L.length = 12 := by omega
  have hw11 : s.run.W.getD 11 0 ≠ -1 := fun h3 => by
    have := last_not hr hk (c := s.cl.getD s.bad.toNat []) hc b2 (i := 11) (by omega) h3
    omega
  have ha : s.L.length ≤ 12 := by rw [e1, List.length_append] at hL; omega
  have hb11 : s.L.length ≠ 12 := fun h3 => by
    have h4 := h12 h3
    rw [e2, app_l (by omega)] at hw11
    exact hw11 h4
  have hge : 11 ≤ s.L.length := Classical.byContradiction fun h3 => by
    rw [e2] at hA
    have hm : (s.W ++ f).getD 10 0 ∈ f := by
      have h5 : s.W.length + f.length = 12 := by rw [← hL, ← hlw, e2, List.length_append]
      rw [List.getD_eq_getElem?_getD, List.getElem?_append_right (by omega), List.getElem?_eq_getElem (by omega)]
      exact List.getElem_mem _
    have := e4 _ hm
    omega
  have hlen : s.L.length = 11 := by omega
  have hcf : conf s.cl s.L < 0 := Classical.byContradiction fun h3 => by
    have h4 : s.run.L = s.L := by
      show (on s.cl s.L s.W).1 = s.L
      rw [on, if_pos (by omega)]
    rw [h4] at hL
    omega
  have hun : ¬ unit s.cl s.L < 0 := fun h3 => by
    have h4 : s.run.L = s.L := by
      show (on s.cl s.L s.W).1 = s.L
      rw [on, if_neg (by omega), dif_pos h3]
    rw [h4] at hL
    omega
  obtain ⟨e', f', g1, g2, g3⟩ := run_one hcf hun
  have h0 : e' = [] := by
    rw [g1] at hL
    simp only [List.length_append, List.length_cons, List.length_nil] at hL
    exact List.eq_nil_of_length_eq_zero (by omega)
  have h0' : f' = [] := List.eq_nil_of_length_eq_zero (by rw [← g3, h0]; rfl)
  rw [h0, List.append_nil] at g1
  rw [h0', List.append_nil] at g2
  exact ⟨hlen, by omega, hcf, hun, g1, g2⟩
def Mix (c d y : List Int) : Prop := ∀ x ∈ y, (x ∈ c ∧ -x ∉ d) ∨ (x ∈ d ∧ -x ∉ c)
theorem Mix.symm {c d y : List Int} (h : Mix c d y) : Mix d c y := fun x hx => (h x hx).symm

theorem two_facts {n : Nat} {asked : List Int} {ls : List (List Int)} {s : Sr} (h : Head n asked ls s) (hn : n ≤ 12) (h12 : s.L.length = 12 → s.W.getD 11 0 = -1) (hb : 0 ≤ s.bad) (hk : 1 ≤ s.run.k) (hA : s.run.W.getD 10 0 = -1) :
    ∃ i j, i < ls.length ∧ j < ls.length ∧ i ≠ j ∧ (∀ y, Mix (ls.getD i []) (ls.getD j []) y → y ∈ s.cl → False) ∧ Mix (ls.getD i []) (ls.getD j []) (ana s.run s.bad).1 := by
  obtain ⟨hlen, hn12, hcf, hun, hL, hW⟩ := two_end h hn h12 hb hk hA
  have hr := h.run
  obtain ⟨b1, b2⟩ := bad_ok h.inv hb
  have hst : ∀ c ∈ ls ++ s.st, Good n c := fun c hc => (h.inv.cl c (by rw [h.cl]; exact hc)).1
  obtain ⟨m1, m2⟩ := unit_mem hun
  obtain ⟨x1, x2, x3, x4⟩ := must_spec m1
  have hx4 : ∀ y ∈ s.cl.getD (unit s.cl s.L).toNat [], y ≠ must (s.cl.getD (unit s.cl s.L).toNat []) s.L → -y ∈ s.L := fun y hy hne => by
    unfold falseIn at x4
    simp only [List.all_eq_true, Bool.or_eq_true, decide_eq_true_eq] at x4
    exact (x4 y hy).resolve_left hne
  have hgx := (h.inv.cl _ m2).1 _ x1
  -- the clause that is false
  have hbad : s.bad = conf s.cl s.run.L := by
    rcases onV_end s.cl s.L s.W with h1 | h1
    · exact h1.2
    · have : s.bad = -1 := h1.2.2
      omega
  have hLn : s.run.L.length = n := by rw [hL, List.length_append, List.length_singleton]; omega
  have hi : s.bad.toNat < ls.length := by
    obtain ⟨j, hj, hjf⟩ := orig (n := n) (ls := ls) (st := s.st) hst h.ch hr.inv.ds hr.inv.gd hLn (c := s.cl.getD s.bad.toNat []) (by rw [← h.cl]; exact getD_mem s.cl _ [] b1) b2
    have h2 := conf_le (ls := s.cl) (T := s.run.L) h.inv.nz (j := j) (by rw [h.cl, List.length_append]; omega) (by rw [h.cl, getD_appL hj]; exact hjf)
    omega
  -- the reason
  have hL2d : Dist (s.L ++ [-must (s.cl.getD (unit s.cl s.L).toNat []) s.L]) := h.inv.ds.snoc x3 (by rw [Int.neg_neg]; exact x2)
  have hj : (unit s.cl s.L).toNat < ls.length := by
    obtain ⟨j, hj, hjf⟩ := orig (n := n) (ls := ls) (st := s.st) hst h.ch hL2d (fun y hy => (List.mem_append.1 hy).elim (h.inv.gd y) (fun h3 => by rw [List.mem_singleton.1 h3]; omega)) (by rw [List.length_append, List.length_singleton]; omega) (c := s.cl.getD (unit s.cl s.L).toNat []) (by rw [← h.cl]; exact m2) (fun y hy => by
      by_cases e : y = must (s.cl.getD (unit s.cl s.L).toNat []) s.L
      · rw [e]; exact List.mem_append_right _ (List.mem_singleton.2 rfl)
      · exact List.mem_append_left _ (hx4 y hy e))
    have hjl : j < s.cl.length := by rw [h.cl, List.length_append]; omega
    have hje : s.cl.getD j [] = ls.getD j [] := by rw [h.cl, getD_appL hj]
    obtain ⟨y, hy, hy2⟩ := conf_neg h.inv.nz hcf _ (getD_mem s.cl j [] hjl)
    rw [hje] at hy
    have key : ∀ z ∈ ls.getD j [], -z ∉ s.L → z = must (s.cl.getD (unit s.cl s.L).toNat []) s.L := fun z hz hz2 => by
      rcases List.mem_append.1 (hjf z hz) with h5 | h5
      · exact absurd h5 hz2
      · have := List.mem_singleton.1 h5
        omega
    have hyx := key y hy hy2
    have h2 := unit_le (ls := s.cl) (T := s.L) (j := j) hjl (l := y) (by rw [hje]; exact hy) (by rw [hyx]; exact m1) (fun z hz hne => by
      rw [hje] at hz
      exact Classical.byContradiction fun h6 => hne (by rw [key z hz h6, hyx])) (by rw [hyx]; exact x2) hy2
    omega
  have hci : s.cl.getD s.bad.toNat [] = ls.getD s.bad.toNat [] := getD_cl h.cl hi
  have hdj : s.cl.getD (unit s.cl s.L).toNat [] = ls.getD (unit s.cl s.L).toNat [] := getD_cl h.cl hj
  generalize hx : must (s.cl.getD (unit s.cl s.L).toNat []) s.L = x at *
  have hcm := getD_mem s.cl s.bad.toNat [] b1
  -- levels
  have hw10 : s.run.W.length = 12 := by rw [hr.inv.lw, hLn, hn12]
  have h11 : s.run.L.getD 11 0 = x := by rw [hL]; exact app_r hlen.symm
  have hl10 : 1 ≤ s.run.lv.getD 10 0 ∧ (∀ j, j < 10 → s.run.lv.getD j 0 < s.run.lv.getD 10 0) := by
    rcases hr.inv.re 10 (by omega) with ⟨_, h1, h2⟩ | ⟨⟨h1, _⟩, _⟩
    · exact ⟨h1, h2⟩
    · omega
  have hlow : ∀ j, j < s.run.L.length → s.run.lv.getD j 0 = s.run.k → 10 ≤ j := fun j hj' e => Classical.byContradiction fun h3 => by
    have h4 := hl10.2 j (by omega)
    have h5 := (hr.inv.tp 10 (by omega)).2
    omega
  obtain ⟨u, hu, v, hv, huv, huk, hvk⟩ := hr.two hk (c := s.cl.getD s.bad.toNat []) hcm b2
  obtain ⟨p1, p2, p3⟩ := place_at (b2 u hu)
  obtain ⟨q1, q2, q3⟩ := place_at (b2 v hv)
  have hpu := hlow _ p2 huk
  have hqv := hlow _ q2 hvk
  have hxc : -x ∈ s.cl.getD s.bad.toNat [] ∧ lvl s.run (-x) = s.run.k := by
    by_cases e : (place s.run.L (-u)).toNat = 11
    · rw [e, h11] at p3
      have : u = -x := by omega
      rw [← this]; exact ⟨hu, huk⟩
    · by_cases e' : (place s.run.L (-v)).toNat = 11
      · rw [e', h11] at q3
        have : v = -x := by omega
        rw [← this]; exact ⟨hv, hvk⟩
      · exfalso
        have e3 : (place s.run.L (-u)).toNat = (place s.run.L (-v)).toNat := by omega
        rw [e3, q3] at p3
        exact huv (by omega)
  have hxL : x ∈ s.run.L := by rw [hL]; exact List.mem_append_right _ (List.mem_singleton.2 rfl)
  have hneg : ∀ y, y ∈ s.run.L → -y ∉ s.run.L := fun y hy => hr.inv.ds.neg hr.inv.lz hy
  have hsub : ∀ y, y ∈ s.L → y ∈ s.run.L := fun y hy => by rw [hL]; exact List.mem_append_left _ hy
  have mix : ∀ y, (y ∈ s.cl.getD s.bad.toNat [] ∧ y ≠ -x) ∨ (y ∈ s.cl.getD (unit s.cl s.L).toNat [] ∧ y ≠ x) → (y ∈ ls.getD s.bad.toNat [] ∧ -y ∉ ls.getD (unit s.cl s.L).toNat []) ∨ (y ∈ ls.getD (unit s.cl s.L).toNat [] ∧ -y ∉ ls.getD s.bad.toNat []) := by
    rw [← hci, ← hdj]
    rintro y (⟨h1, h2⟩ | ⟨h1, h2⟩)
    · refine .inl ⟨h1, fun h3 => ?_⟩
      have h4 := hx4 _ h3 (fun e => h2 (by omega))
      rw [Int.neg_neg] at h4
      exact hneg y (hsub y h4) (b2 y h1)
    · refine .inr ⟨h1, fun h3 => ?_⟩
      have h4 := b2 _ h3
      rw [Int.neg_neg] at h4
      exact hneg y h4 (hsub _ (hx4 y h1 h2))
  refine ⟨s.bad.toNat, (unit s.cl s.L).toNat, hi, hj, fun e => ?_, fun y hy hm => ?_, fun y hy => mix y ?_⟩
  · have h1 : x ∈ s.cl.getD s.bad.toNat [] := by rw [e]; exact x1
    exact ((h.inv.cl _ hcm).2.2 x h1).2 hxc.1
  · obtain ⟨z, hz, hz2⟩ := conf_neg h.inv.nz hcf y hm
    refine hz2 ?_
    have hzn : -z ∈ s.run.L → z ≠ -x → -z ∈ s.L := fun h1 h2 => by
      rw [hL] at h1
      rcases List.mem_append.1 h1 with h3 | h3
      · exact h3
      · have := List.mem_singleton.1 h3
        omega
    rcases hy z hz with ⟨h1, h2⟩ | ⟨h1, h2⟩
    · rw [← hci] at h1
      rw [← hdj] at h2
      refine hzn (b2 z h1) fun e => h2 ?_
      rw [e, Int.neg_neg]
      exact x1
    · rw [← hdj] at h1
      rw [← hci] at h2
      refine hx4 z h1 fun e => h2 ?_
      rw [e]
      exact hxc.1
  · -- what is learnt
    have hlo := Low.bad hr.inv (c := s.cl.getD s.bad.toNat []) hcm b2
    have hz0 : ∀ l ∈ s.cl.getD s.bad.toNat [], l ≠ 0 := fun l hl => ((h.inv.cl _ hcm).1 l hl).1
    have hcnt : 2 ≤ (scan s.run (s.cl.getD s.bad.toNat [])).2 := by
      rw [scan_count hz0]
      have hnd : ((s.cl.getD s.bad.toNat []).filter fun l => decide (lvl s.run l = s.run.k)).Nodup := (h.inv.cl _ hcm).2.1.filter _
      have hu2 : u ∈ (s.cl.getD s.bad.toNat []).filter fun l => decide (lvl s.run l = s.run.k) := List.mem_filter.2 ⟨hu, by simpa using huk⟩
      have hv2 : v ∈ (s.cl.getD s.bad.toNat []).filter fun l => decide (lvl s.run l = s.run.k) := List.mem_filter.2 ⟨hv, by simpa using hvk⟩
      generalize (s.cl.getD s.bad.toNat []).filter (fun l => decide (lvl s.run l = s.run.k)) = g at hu2 hv2
      match g, hu2, hv2 with
      | [], hu2, _ => cases hu2
      | [a], hu2, hv2 => exact absurd ((List.mem_singleton.1 hv2).trans (List.mem_singleton.1 hu2).symm) huv
      | _ :: _ :: g, _, _ => simp only [List.length_cons]; omega
    have htop := scan_top (s := s.run) hz0 (by omega)
    have hpx : (place s.run.L x).toNat = 11 := by
      rw [← h11, hr.inv.ds.place (by omega)]
      rfl
    have hzx : (scan s.run (s.cl.getD s.bad.toNat [])).1 = -x := by
      obtain ⟨t1, t2, t3⟩ := htop
      obtain ⟨r1, r2, r3⟩ := place_at (b2 _ t1)
      have h5 := t3 (-x) hxc.1 hxc.2
      unfold at_L at h5
      rw [Int.neg_neg] at h5
      have hpx0 := (place_at hxL).1
      have h6 : (place s.run.L (-(scan s.run (s.cl.getD s.bad.toNat [])).1)).toNat = 11 := by omega
      rw [h6, h11] at r3
      omega
    have hwhy : why s.run (-x) = s.cl.getD (unit s.cl s.L).toNat [] := by
      rw [why_neg, hpx, hW, app_r (by rw [h.inv.lw, hlen])]
      rfl
    have hgo : anaF s.run s.run.L.length (s.cl.getD s.bad.toNat []) = anaF s.run 11 (reso (s.cl.getD s.bad.toNat []) (s.cl.getD (unit s.cl s.L).toNat []) (-x)) := by
      rw [hLn, hn12, ana_go hcnt, hzx, hwhy]
    have hlo2 : Low n s.run 11 (reso (s.cl.getD s.bad.toNat []) (s.cl.getD (unit s.cl s.L).toNat []) (-x)) := by
      have h5 : s.run.L.length = 11 + 1 := by omega
      rw [h5] at hlo
      have h6 := hlo.step hr.inv hcnt
      rwa [hzx, hwhy] at h6
    have hstop : (scan s.run (reso (s.cl.getD s.bad.toNat []) (s.cl.getD (unit s.cl s.L).toNat []) (-x))).2 < 2 := by
      have hz1 : ∀ l ∈ reso (s.cl.getD s.bad.toNat []) (s.cl.getD (unit s.cl s.L).toNat []) (-x), l ≠ 0 := fun l hl => (hlo2.good hr.inv l hl).1
      rw [scan_count hz1]
      have hnd : ((reso (s.cl.getD s.bad.toNat []) (s.cl.getD (unit s.cl s.L).toNat []) (-x)).filter fun l => decide (lvl s.run l = s.run.k)).Nodup := hlo2.1.filter _
      have hall : ∀ y ∈ (reso (s.cl.getD s.bad.toNat []) (s.cl.getD (unit s.cl s.L).toNat []) (-x)).filter (fun l => decide (lvl s.run l = s.run.k)), y = -s.run.L.getD 10 0 := fun y hy => by
        obtain ⟨h5, h6⟩ := List.mem_filter.1 hy
        obtain ⟨h7, h8⟩ := hlo2.2 y h5
        obtain ⟨r1, r2, r3⟩ := place_at h7
        have h9 := hlow _ r2 (of_decide_eq_true h6)
        unfold at_L at h8
        have h10 : (place s.run.L (-y)).toNat = 10 := by omega
        rw [h10] at r3
        omega
      generalize (reso (s.cl.getD s.bad.toNat []) (s.cl.getD (unit s.cl s.L).toNat []) (-x)).filter (fun l => decide (lvl s.run l = s.run.k)) = g at hnd hall
      match g, hnd, hall with
      | [], _, _ => simp
      | [a], _, _ => simp
      | a :: b :: g, hnd, hall =>
        exfalso
        rw [List.nodup_cons] at hnd
        refine hnd.1 ?_
        rw [hall a (by simp), ← hall b (by simp)]
        exact List.mem_cons_self ..
    have hin : y ∈ reso (s.cl.getD s.bad.toNat []) (s.cl.getD (unit s.cl s.L).toNat []) (-x) := by
      have h5 : y ∈ cut0 s.run (anaF s.run s.run.L.length (s.run.cl.getD s.bad.toNat [])) := hy
      have h6 := (List.mem_filter.1 h5).1
      have h7 : s.run.cl = s.cl := rfl
      rw [h7, hgo, ana_stop hstop] at h6
      exact h6
    rw [reso_mem, Int.neg_neg] at hin
    exact hin

structure Cnt (ls : List (List Int)) (s : Sr) (used : Int) (B a b : Nat) (K : List Nat) : Prop where
  us : used = (a : Int) + b
  nb : b + (B + 3) / 4 ≤ 1024
  nm : num 12 s.run.W + 2 ^ (12 - s.run.L.length) ≤ B
  nd : K.Nodup
  kl : K.length = 2 * a
  kb : ∀ c ∈ K, c < 1600
  kp : ∀ i j, i < 40 → j < 40 → i * 40 + j ∈ K → ∃ d ∈ s.cl, Mix (ls.getD i []) (ls.getD j []) d
  h12 : s.L.length = 12 → s.W.getD 11 0 = -1

theorem num_run {n : Nat} {s : Sr} (h : Inv n s) (hn : n ≤ 12) : num 12 s.run.W = num 12 s.W ∧ s.L.length ≤ s.run.L.length ∧ s.run.L.length ≤ 12 := by
  obtain ⟨e, f, e1, e2, e3, e4⟩ := run_ext s
  have hl := h.run.ds.len h.run.gd
  have hl0 := h.ds.len h.gd
  have hw := h.lw
  refine ⟨?_, by rw [e1, List.length_append]; omega, by omega⟩
  rw [e2, num_app 12 _ _ (by omega), num_pos _ f e4]
  omega

theorem pow_mono {a b : Nat} (h : a ≤ b) : 2 ^ a ≤ 2 ^ b := Nat.pow_le_pow_right (by decide) h

theorem doF_ends {n : Nat} {ls : List (List Int)} {asked : List Int} {ph : Bool} (hfit : Fit n ls asked) (hn : n ≤ 12) (hl : ls.length ≤ 40) : ∀ (q : Nat) (s : Sr) (used : Int) (B a b : Nat) (K : List Nat), Head n asked ls s → Cnt ls s used B a b K → (doF n asked ph 2000 q s used).1 ≠ 3
  | 0, s, used, B, a, b, K, h, hc => by rw [doF]; decide
  | q + 1, s, used, B, a, b, K, h, hc => by
    have hr := h.run
    obtain ⟨hnum, hle, hl12⟩ := num_run h.inv hn
    have hlw := hr.inv.lw
    have hka : 2 * a ≤ 1600 := by
      have := nodup_lt 1600 K hc.nd hc.kb
      have := hc.kl
      omega
    by_cases hb : 0 ≤ s.bad
    · obtain ⟨b1, b2⟩ := bad_ok h.inv hb
      have hnb := hc.nb
      have hus := hc.us
      have hf : used ≠ 2000 := by omega
      by_cases hk : s.run.k = 0
      · rw [doF_zero hb hf hk]
        show (2 : Int) ≠ 3
        decide
      · have hk0 := hr.inv.k0
        have hk1 : 1 ≤ s.run.k := by omega
        rw [doF_learn hb hf hk]
        have ht := hr.taught hk1 b1 b2
        obtain ⟨h1, h2, ⟨h3, h4⟩, h5, h6⟩ := ana_ok hr.inv (bad := s.bad) b1 b2
        have hlt := (taught_one hr hk1 (bad := s.bad) b1 b2).1
        obtain ⟨p1, p2⟩ := back_at hr.inv h3 hlt
        obtain ⟨u1, u2⟩ := back_unit hr hk1 (bad := s.bad) b1 b2
        -- what is left after the step back
        have hnm : num 12 ((s.run.learn (ana s.run s.bad).1).back (ana s.run s.bad).2).run.W + 2 ^ (12 - ((s.run.learn (ana s.run s.bad).1).back (ana s.run s.bad).2).run.L.length) ≤ num 12 s.run.W := by
          obtain ⟨g1, g2, g3⟩ := num_run ht.inv hn
          obtain ⟨e, f, r1, r2, r3⟩ := run_one (s := (s.run.learn (ana s.run s.bad).1).back (ana s.run s.bad).2) u1 u2
          have hL' : ((s.run.learn (ana s.run s.bad).1).back (ana s.run s.bad).2).L.length = keep s.run.lv (ana s.run s.bad).2 := by
            show (s.run.L.take (keep s.run.lv (ana s.run s.bad).2)).length = _
            rw [List.length_take]
            omega
          have hge : keep s.run.lv (ana s.run s.bad).2 + 1 ≤ ((s.run.learn (ana s.run s.bad).1).back (ana s.run s.bad).2).run.L.length := by
            rw [r1, List.length_append, List.length_append, List.length_singleton, hL']
            omega
          have hW' : ((s.run.learn (ana s.run s.bad).1).back (ana s.run s.bad).2).W = s.run.W.take (keep s.run.lv (ana s.run s.bad).2) := rfl
          have hat : num 12 (s.run.W.take (keep s.run.lv (ana s.run s.bad).2)) + 2 ^ (11 - keep s.run.lv (ana s.run s.bad).2) ≤ num 12 s.run.W := num_at (e := 11) (p := keep s.run.lv (ana s.run s.bad).2) (W := s.run.W) (by omega) (by omega) p2
          have hpw : 2 ^ (12 - ((s.run.learn (ana s.run s.bad).1).back (ana s.run s.bad).2).run.L.length) ≤ 2 ^ (11 - keep s.run.lv (ana s.run s.bad).2) := pow_mono (by omega)
          rw [g1, hW']
          omega
        have hlt2 : num 12 s.run.W < B := by
          have := hc.nm
          have := Nat.two_pow_pos (12 - s.run.L.length)
          omega
        have h12' : ((s.run.learn (ana s.run s.bad).1).back (ana s.run s.bad).2).L.length = 12 → ((s.run.learn (ana s.run s.bad).1).back (ana s.run s.bad).2).W.getD 11 0 = -1 := fun h7 => by
          have h8 : (s.run.L.take (keep s.run.lv (ana s.run s.bad).2)).length = 12 := h7
          rw [List.length_take] at h8
          omega
        have hmem : ∀ d ∈ s.cl, d ∈ ((s.run.learn (ana s.run s.bad).1).back (ana s.run s.bad).2).cl := fun d hd => List.mem_append_left _ hd
        by_cases hA : s.run.W.getD 10 0 = -1
        · obtain ⟨i, j, hi, hj, hij, hno, hmix⟩ := two_facts h hn hc.h12 hb hk1 hA
          have hno1 : i * 40 + j ∉ K := fun hm => by
            obtain ⟨d, hd, hd2⟩ := hc.kp i j (by omega) (by omega) hm
            exact hno d hd2 hd
          have hno2 : j * 40 + i ∉ K := fun hm => by
            obtain ⟨d, hd, hd2⟩ := hc.kp j i (by omega) (by omega) hm
            exact hno d hd2.symm hd
          refine doF_ends hfit hn hl q _ (used + 1) (num 12 s.run.W) (a + 1) b ((i * 40 + j) :: (j * 40 + i) :: K) ht ⟨by omega, by omega, hnm, ?_, by simp only [List.length_cons]; have := hc.kl; omega, ?_, ?_, h12'⟩
          · rw [List.nodup_cons, List.nodup_cons]
            refine ⟨fun hm => ?_, hno2, hc.nd⟩
            rcases List.mem_cons.1 hm with h7 | h7
            · omega
            · exact hno1 h7
          · intro c hm
            rcases List.mem_cons.1 hm with h7 | h7
            · omega
            · rcases List.mem_cons.1 h7 with h8 | h8
              · omega
              · exact hc.kb c h8
          · intro i' j' hi' hj' hm
            have hlast : (ana s.run s.bad).1 ∈ ((s.run.learn (ana s.run s.bad).1).back (ana s.run s.bad).2).cl := List.mem_append_right _ (List.mem_singleton.2 rfl)
            rcases List.mem_cons.1 hm with h7 | h7
            · obtain ⟨rfl, rfl⟩ : i' = i ∧ j' = j := by omega
              exact ⟨_, hlast, hmix⟩
            · rcases List.mem_cons.1 h7 with h8 | h8
              · obtain ⟨rfl, rfl⟩ : i' = j ∧ j' = i := by omega
                exact ⟨_, hlast, hmix.symm⟩
              · obtain ⟨d, hd, hd2⟩ := hc.kp i' j' hi' hj' h8
                exact ⟨d, hmem d hd, hd2⟩
        · have h4' := num_four hr hn hk1 (c := s.cl.getD s.bad.toNat []) (getD_mem s.cl _ [] b1) b2 hA
          refine doF_ends hfit hn hl q _ (used + 1) (num 12 s.run.W) a (b + 1) K ht ⟨by omega, by omega, hnm, hc.nd, hc.kl, hc.kb, fun i j hi hj hm => ?_, h12'⟩
          obtain ⟨d, hd, hd2⟩ := hc.kp i j hi hj hm
          exact ⟨d, hmem d hd, hd2⟩
    · have hsh : Shut s.run.cl s.run.L := on_shut h.inv.nz (show s.bad < 0 by omega)
      by_cases hd : denied s.run.L asked = 0
      · by_cases hx : nextL ph s.run.L asked n = 0
        · rw [doF_yes (by omega) hd hx]
          show (1 : Int) ≠ 3
          decide
        · rw [doF_next (by omega) hd hx]
          obtain ⟨n1, n2, n3, n4⟩ := next_ok hfit.ga hd hx
          have hnx := hr.next hsh n1 n2 n3 n4
          have hl13 := hnx.inv.ds.len hnx.inv.gd
          have hLx : (s.run.next (nextL ph s.run.L asked n)).L.length = s.run.L.length + 1 := by
            show (s.run.L ++ [_]).length = _
            rw [List.length_append, List.length_singleton]
          refine doF_ends hfit hn hl q _ used B a b K hnx ⟨hc.us, hc.nb, ?_, hc.nd, hc.kl, hc.kb, hc.kp, fun h7 => ?_⟩
          · obtain ⟨g1, g2, g3⟩ := num_run hnx.inv hn
            have hpw : 2 ^ (12 - (s.run.next (nextL ph s.run.L asked n)).run.L.length) ≤ 2 ^ (11 - s.run.L.length) := pow_mono (by omega)
            have hap : num 12 (s.run.next (nextL ph s.run.L asked n)).W = num 12 s.run.W + 2 ^ (11 - s.run.L.length) := by
              show num 12 (s.run.W ++ [-1]) = _
              rw [num_app 12 _ _ (by omega), show 12 - s.run.W.length = (11 - s.run.L.length) + 1 by omega, num, if_pos rfl, num_nil]
              omega
            have h2 : 2 ^ (12 - s.run.L.length) = 2 * 2 ^ (11 - s.run.L.length) := by
              rw [show 12 - s.run.L.length = (11 - s.run.L.length) + 1 by omega, Nat.pow_succ]
              omega
            have := hc.nm
            rw [g1, hap]
            omega
          · show (s.run.W ++ [-1]).getD 11 0 = -1
            exact app_r (by omega)
      · rw [doF_core (by omega) hd]
        show (2 : Int) ≠ 3
        decide

theorem do_ends {n : Nat} {ls : List (List Int)} {asked : List Int} {ph : Bool} (hfit : Fit n ls asked) (hn : n ≤ 12) (hl : ls.length ≤ 40) : (doA n ls asked ph 2000).1 ≠ 3 := by
  have h := Head.start (n := n) (asked := asked) hfit.cl
  refine doF_ends hfit hn hl _ _ _ 4096 0 0 [] h ⟨rfl, by decide, ?_, List.nodup_nil, rfl, fun c hc => (nomatch hc), fun i j _ _ hm => (nomatch hm), fun h7 => ?_⟩
  · obtain ⟨g1, g2, g3⟩ := num_run h.inv hn
    rw [g1]
    show num 12 [] + _ ≤ 4096
    rw [num_nil]
    have : 2 ^ (12 - (start ls).run.L.length) ≤ 2 ^ 12 := pow_mono (by omega)
    omega
  · have : (0 : Nat) = 12 := h7
    omega
theorem do_two {n : Nat} {ls : List (List Int)} {asked : List Int} {ph : Bool} (hfit : Fit n ls asked) (hn : n ≤ 12) (hl : ls.length ≤ 40) : OutY n ls asked (doA n ls asked ph 2000) ∨ OutN n ls asked (doA n ls asked ph 2000) := by
  rcases (do_ok (ph := ph) (fuel := 2000) hfit (by omega)).1 with h | h | h
  · exact .inl h
  · exact .inr h
  · exact absurd h.st (do_ends hfit hn hl)
theorem OutN.none {n : Nat} {ls : List (List Int)} {asked : List Int} {A : Ans} (hfit : Fit n ls asked) (h : OutN n ls asked A) {a : List Bool} (ha : all a ls = true) (hc : ∀ x ∈ A.2.2.2.1, lit a x = true) : False := by
  obtain ⟨st, e, _⟩ := h.la
  have hz : Nz ls := fun c hc x hx => ((hfit.cl c hc).1 x hx).1
  have h1 := chain_all hz ha _ (fun c hc x hx => ((h.good c hc).1 x hx).1) h.ch (negL A.2.2.2.1) (by rw [e]; exact List.mem_append_right _ (List.mem_singleton.2 rfl))
  obtain ⟨x, hx, hx2⟩ := sat_iff.1 h1
  obtain ⟨y, hy, rfl⟩ := List.mem_map.1 hx
  have hy0 : y ≠ 0 := (hfit.ga y (h.sub y hy)).1
  rw [litV_neg hy0, hc y hy] at hx2
  cases hx2
end Sp
end Go.Um

/- Plain laws: faults of the search, and two small ones. No program in sight. No condition. -/

namespace Go.Um
namespace Sp

def cdF (n : Int) (ls : List (List Int)) (asked : List Int) (a b c d fuel : Int) : Int × Int := if (beside n ls asked).1 = 0 ∧ (optW a b c d fuel).1 ≠ 0 then (3, -1) else beside n ls asked
def two1 : List (List Int) := [[1, 2], [-1]]
def two2 : List (List Int) := [[1, 2], [-1], [-2]]
theorem opt0 : (optW 0 0 0 0 2000).1 = 0 := by decide
end Sp
end Go.Um
