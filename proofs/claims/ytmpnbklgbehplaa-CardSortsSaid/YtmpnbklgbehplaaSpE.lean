/- Plain law: a sorter of literals, by unit propagation. No program in sight. No condition. -/
import Derived.Test.YtmpnbklgbehplaaSp6
namespace Go.Um
namespace Sp

/-- The assignment that counts. -/
def cntTo (a : List Bool) (l : List Int) (i : Nat) : Nat := ((l.take i).filter (lit a)).length
def asg (a : List Bool) (l : List Int) : Nat → List Bool
  | 0 => a
  | i + 1 => asg a l i ++ (List.range (i + 1)).map fun j => decide (j < cntTo a l (i + 1))

theorem asg_len {n : Int} {a : List Bool} (l : List Int) (hn : (a.length : Int) = n) : ∀ i, ((asg a l i).length : Int) = (sortTo n l i).1
  | 0 => hn
  | i + 1 => by
    have := asg_len l hn i
    show ((asg a l i ++ _).length : Int) = (sortTo n l i).1 + ((i + 1 : Nat) : Int)
    rw [List.length_append, List.length_map, List.length_range]
    omega
theorem lit_app {a : List Bool} (X : List Bool) {x : Int} (h0 : x ≠ 0) (h : -(a.length : Int) ≤ x ∧ x ≤ a.length) : lit (a ++ X) x = lit a x := by
  unfold lit
  split
  · rw [List.getD_eq_getElem?_getD, List.getD_eq_getElem?_getD, List.getElem?_append_left (by omega)]
  · rw [List.getD_eq_getElem?_getD, List.getD_eq_getElem?_getD, List.getElem?_append_left (by omega)]
theorem asg_le (a : List Bool) (l : List Int) (i : Nat) : ∀ d, ∃ X, asg a l (i + d) = asg a l i ++ X
  | 0 => ⟨[], by simp⟩
  | d + 1 => by
    obtain ⟨X, hX⟩ := asg_le a l i d
    exact ⟨X ++ (List.range (i + d + 1)).map fun j => decide (j < cntTo a l (i + d + 1)), by rw [← Nat.add_assoc, asg, hX, List.append_assoc]⟩
theorem cnt_succ {a : List Bool} {l : List Int} {i : Nat} (h : i < l.length) : cntTo a l (i + 1) = cntTo a l i + (if lit a (l.getD i 0) = true then 1 else 0) := by
  unfold cntTo
  cases hl : lit a (l.getD i 0) with
  | true => rw [filter_yes h hl]; rfl
  | false => rw [filter_no h hl]; rfl
theorem cnt_bnd (a : List Bool) (l : List Int) (i : Nat) : cntTo a l i ≤ i := filter_at _ l i
theorem news_get (n : Int) {i j : Nat} (h : j < i) : (news n i).getD j 0 = n + j + 1 := by
  rw [List.getD_eq_getElem?_getD, List.getElem?_eq_getElem (by rw [news_len]; exact h)]; simp [news]

/-- The new variable's value. -/
theorem lit_new {n : Int} {a : List Bool} {l : List Int} (hn : (a.length : Int) = n) {i j : Nat} (h : j < i + 1) : lit (asg a l (i + 1)) ((sortTo n l i).1 + j + 1) = decide (j < cntTo a l (i + 1)) := by
  have hl := asg_len l hn i
  unfold lit
  rw [if_pos (by omega), show ((sortTo n l i).1 + (j : Int) + 1 - 1).toNat = (asg a l i).length + j by omega, asg, List.getD_eq_getElem?_getD, List.getElem?_append_right (by omega)]
  rw [show (asg a l i).length + j - (asg a l i).length = j by omega, List.getElem?_eq_getElem (by simpa using h)]
  simp
theorem before_get {n : Int} {l : List Int} {i j : Nat} (h : j < i) : ∃ q, i = q + 1 ∧ (sortTo n l i).2.2.getD j 0 = (sortTo n l q).1 + j + 1 := by
  obtain ⟨q, rfl⟩ : ∃ q, i = q + 1 := ⟨i - 1, by omega⟩
  exact ⟨q, rfl, news_get _ h⟩
theorem sort_mono {n : Int} (l : List Int) (i : Nat) : ∀ d, (sortTo n l i).1 ≤ (sortTo n l (i + d)).1
  | 0 => Int.le_refl _
  | d + 1 => by
    have := sort_mono (n := n) l i d
    show _ ≤ (sortTo n l (i + d)).1 + ((i + d + 1 : Nat) : Int)
    omega
/-- What is known of the literals of a new variable's clauses. -/
theorem before_is {n : Int} {a : List Bool} {l : List Int} (hn : (a.length : Int) = n) {i j : Nat} (h : j < i) : (n < (sortTo n l i).2.2.getD j 0 ∧ (sortTo n l i).2.2.getD j 0 ≤ (sortTo n l i).1) ∧ lit (asg a l i) ((sortTo n l i).2.2.getD j 0) = decide (j < cntTo a l i) := by
  obtain ⟨q, rfl, e⟩ := before_get (n := n) (l := l) h
  have hm := sort_mono (n := n) l 0 q
  rw [Nat.zero_add] at hm
  have h0 : (sortTo n l 0).1 = n := rfl
  refine ⟨⟨by omega, ?_⟩, by rw [e]; exact lit_new hn h⟩
  rw [e]
  show _ ≤ (sortTo n l q).1 + ((q + 1 : Nat) : Int)
  omega

/-- Some clause of a variable is true just by it. -/
def Forces (A : List Bool) (N v : Int) (ls : List (List Int)) : Prop := ∃ c ∈ ls, ∃ y ∈ c, (y = v ∨ y = -v) ∧ lit A y = true ∧ ∀ z ∈ c, z ≠ y → (z ≠ 0 ∧ -N ≤ z ∧ z ≤ N) ∧ lit A z = false

theorem sortCl_law {n : Int} {a : List Bool} {l : List Int} (hn : (a.length : Int) = n) (hl : ∀ x ∈ l, x ≠ 0 ∧ -n ≤ x ∧ x ≤ n) {i j : Nat} (hi : i < l.length) (hj : j < i + 1) :
    (∀ c ∈ sortCl (l.getD i 0) ((sortTo n l i).1 + j + 1) (sortTo n l i).2.2 j, sat (asg a l (i + 1)) c = true ∧ c.length ≤ 24 ∧ (wrong ((sortTo n l i).1 + j + 1) c).1 = 0) ∧
    Forces (asg a l (i + 1)) (sortTo n l i).1 ((sortTo n l i).1 + j + 1) (sortCl (l.getD i 0) ((sortTo n l i).1 + j + 1) (sortTo n l i).2.2 j) := by
  have hx := hl _ (getD_mem l i 0 hi)
  have hA := asg_len l hn i
  have hm := sort_mono (n := n) l 0 i
  rw [Nat.zero_add] at hm
  have h0 : (sortTo n l 0).1 = n := rfl
  have hv := lit_new (l := l) hn hj
  have hc := cnt_succ (a := a) hi
  have hcb := cnt_bnd a l i
  have hlx : lit (asg a l (i + 1)) (l.getD i 0) = lit a (l.getD i 0) := by
    obtain ⟨X, hX⟩ := asg_le a l 0 (i + 1)
    rw [Nat.zero_add] at hX
    rw [hX]
    exact lit_app (a := a) X hx.1 (by omega)
  have hb : ∀ k, k < i → (n < (sortTo n l i).2.2.getD k 0 ∧ (sortTo n l i).2.2.getD k 0 ≤ (sortTo n l i).1) ∧ lit (asg a l (i + 1)) ((sortTo n l i).2.2.getD k 0) = decide (k < cntTo a l i) := by
    intro k hk
    obtain ⟨h1, h2⟩ := before_is (l := l) hn hk
    refine ⟨h1, ?_⟩
    rw [asg, lit_app _ (by omega) (by omega)]
    exact h2
  have hbl := sortTo_len n l i
  generalize hV : (sortTo n l i).1 + (j : Int) + 1 = v at hv ⊢
  generalize hX : l.getD i 0 = x at hx hlx hc ⊢
  generalize asg a l (i + 1) = A at hv hlx hb ⊢
  have hnv : lit A (-v) = !lit A v := lit_neg (by omega)
  have hnx : lit A (-x) = !lit A x := lit_neg hx.1
  by_cases c1 : j < i ∧ 0 < j
  · have b1 := hb j c1.1
    have b2 := hb (j - 1) (by omega)
    have hne : (sortTo n l i).2.2.getD (j - 1) 0 ≠ (sortTo n l i).2.2.getD j 0 := by
      obtain ⟨q, rfl, e⟩ := before_get (n := n) (l := l) c1.1
      rw [e]
      have := news_get (sortTo n l q).1 (i := q + 1) (j := j - 1) (by omega)
      show (news (sortTo n l q).1 (q + 1)).getD (j - 1) 0 ≠ _
      rw [this]; omega
    rw [sortCl, if_pos (by rw [hbl]; exact c1)]
    generalize (sortTo n l i).2.2.getD j 0 = p at b1 hne ⊢
    generalize (sortTo n l i).2.2.getD (j - 1) 0 = q at b2 hne ⊢
    have hnp : lit A (-p) = !lit A p := lit_neg (by omega)
    have hnq : lit A (-q) = !lit A q := lit_neg (by omega)
    have key : lit A v = (lit A p || (lit A x && lit A q)) := by
      rw [hv, b1.2, b2.2, hlx, hc]
      cases lit a x
      · simp
      · simp only [if_true]
        by_cases h1 : j < cntTo a l i
        · simp [h1]; omega
        · simp only [h1, decide_false, Bool.false_or, Bool.true_and]
          apply decide_eq_decide.2; omega
    constructor
    · simp only [List.mem_cons, List.not_mem_nil, or_false]
      rintro c (rfl | rfl | rfl | rfl)
      · exact ⟨by simp only [sat, List.any_cons, List.any_nil, hnp, key]; cases lit A p <;> simp, by simp, wrong_iff.2 ⟨by simp <;> omega, by simp [av] <;> omega⟩⟩
      · exact ⟨by simp only [sat, List.any_cons, List.any_nil, hnx, hnq, key]; cases lit A x <;> cases lit A q <;> simp, by simp, wrong_iff.2 ⟨by simp <;> omega, by simp [av] <;> omega⟩⟩
      · exact ⟨by simp only [sat, List.any_cons, List.any_nil, hnv, key]; cases lit A p <;> cases lit A x <;> simp, by simp, wrong_iff.2 ⟨by simp <;> omega, by simp [av] <;> omega⟩⟩
      · exact ⟨by simp only [sat, List.any_cons, List.any_nil, hnv, key]; cases lit A p <;> cases lit A q <;> simp, by simp, wrong_iff.2 ⟨by simp <;> omega, by simp [av] <;> omega⟩⟩
    · cases hp : lit A p with
      | true => exact ⟨[-p, v], by simp, v, by simp, .inl rfl, by rw [key, hp]; rfl, by
          intro z hz hzv; simp only [List.mem_cons, List.not_mem_nil, or_false] at hz
          rcases hz with rfl | rfl
          · exact ⟨by omega, by rw [hnp, hp]; rfl⟩
          · exact absurd rfl hzv⟩
      | false =>
        cases hxx : lit A x with
        | false => exact ⟨[p, x, -v], by simp, -v, by simp, .inr rfl, by rw [hnv, key, hp, hxx]; rfl, by
            intro z hz hzv; simp only [List.mem_cons, List.not_mem_nil, or_false] at hz
            rcases hz with rfl | rfl | rfl
            · exact ⟨by omega, hp⟩
            · exact ⟨by omega, hxx⟩
            · exact absurd rfl hzv⟩
        | true =>
          cases hq : lit A q with
          | true => exact ⟨[-x, -q, v], by simp, v, by simp, .inl rfl, by rw [key, hp, hxx, hq]; rfl, by
              intro z hz hzv; simp only [List.mem_cons, List.not_mem_nil, or_false] at hz
              rcases hz with rfl | rfl | rfl
              · exact ⟨by omega, by rw [hnx, hxx]; rfl⟩
              · exact ⟨by omega, by rw [hnq, hq]; rfl⟩
              · exact absurd rfl hzv⟩
          | false => exact ⟨[p, q, -v], by simp, -v, by simp, .inr rfl, by rw [hnv, key, hp, hxx, hq]; rfl, by
              intro z hz hzv; simp only [List.mem_cons, List.not_mem_nil, or_false] at hz
              rcases hz with rfl | rfl | rfl
              · exact ⟨by omega, hp⟩
              · exact ⟨by omega, hq⟩
              · exact absurd rfl hzv⟩
  · by_cases c2 : j < i
    · have b1 := hb j c2
      rw [sortCl, if_neg (by rw [hbl]; exact c1), if_pos (by rw [hbl]; exact c2)]
      have hj0 : j = 0 := by omega
      subst hj0
      generalize (sortTo n l i).2.2.getD 0 0 = p at b1 ⊢
      have hnp : lit A (-p) = !lit A p := lit_neg (by omega)
      have key : lit A v = (lit A p || lit A x) := by
        rw [hv, b1.2, hlx, hc]
        cases lit a x
        · simp
        · simp
      constructor
      · simp only [List.mem_cons, List.not_mem_nil, or_false]
        rintro c (rfl | rfl | rfl)
        · exact ⟨by simp only [sat, List.any_cons, List.any_nil, hnp, key]; cases lit A p <;> simp, by simp, wrong_iff.2 ⟨by simp <;> omega, by simp [av] <;> omega⟩⟩
        · exact ⟨by simp only [sat, List.any_cons, List.any_nil, hnx, key]; cases lit A x <;> simp, by simp, wrong_iff.2 ⟨by simp <;> omega, by simp [av] <;> omega⟩⟩
        · exact ⟨by simp only [sat, List.any_cons, List.any_nil, hnv, key]; cases lit A p <;> cases lit A x <;> simp, by simp, wrong_iff.2 ⟨by simp <;> omega, by simp [av] <;> omega⟩⟩
      · cases hp : lit A p with
        | true => exact ⟨[-p, v], by simp, v, by simp, .inl rfl, by rw [key, hp]; rfl, by
            intro z hz hzv; simp only [List.mem_cons, List.not_mem_nil, or_false] at hz
            rcases hz with rfl | rfl
            · exact ⟨by omega, by rw [hnp, hp]; rfl⟩
            · exact absurd rfl hzv⟩
        | false =>
          cases hxx : lit A x with
          | false => exact ⟨[p, x, -v], by simp, -v, by simp, .inr rfl, by rw [hnv, key, hp, hxx]; rfl, by
              intro z hz hzv; simp only [List.mem_cons, List.not_mem_nil, or_false] at hz
              rcases hz with rfl | rfl | rfl
              · exact ⟨by omega, hp⟩
              · exact ⟨by omega, hxx⟩
              · exact absurd rfl hzv⟩
          | true => exact ⟨[-x, v], by simp, v, by simp, .inl rfl, by rw [key, hp, hxx]; rfl, by
              intro z hz hzv; simp only [List.mem_cons, List.not_mem_nil, or_false] at hz
              rcases hz with rfl | rfl
              · exact ⟨by omega, by rw [hnx, hxx]; rfl⟩
              · exact absurd rfl hzv⟩
    · by_cases c3 : 0 < j
      · have b2 := hb (j - 1) (by omega)
        rw [sortCl, if_neg (by rw [hbl]; exact c1), if_neg (by rw [hbl]; exact c2), if_pos c3]
        generalize (sortTo n l i).2.2.getD (j - 1) 0 = q at b2 ⊢
        have hnq : lit A (-q) = !lit A q := lit_neg (by omega)
        have key : lit A v = (lit A x && lit A q) := by
          rw [hv, b2.2, hlx, hc]
          cases lit a x
          · simp <;> omega
          · simp only [if_true, Bool.true_and]
            apply decide_eq_decide.2; omega
        constructor
        · simp only [List.mem_cons, List.not_mem_nil, or_false]
          rintro c (rfl | rfl | rfl)
          · exact ⟨by simp only [sat, List.any_cons, List.any_nil, hnx, hnq, key]; cases lit A x <;> cases lit A q <;> simp, by simp, wrong_iff.2 ⟨by simp <;> omega, by simp [av] <;> omega⟩⟩
          · exact ⟨by simp only [sat, List.any_cons, List.any_nil, hnv, key]; cases lit A x <;> simp, by simp, wrong_iff.2 ⟨by simp <;> omega, by simp [av] <;> omega⟩⟩
          · exact ⟨by simp only [sat, List.any_cons, List.any_nil, hnv, key]; cases lit A x <;> cases lit A q <;> simp, by simp, wrong_iff.2 ⟨by simp <;> omega, by simp [av] <;> omega⟩⟩
        · cases hxx : lit A x with
          | false => exact ⟨[x, -v], by simp, -v, by simp, .inr rfl, by rw [hnv, key, hxx]; rfl, by
              intro z hz hzv; simp only [List.mem_cons, List.not_mem_nil, or_false] at hz
              rcases hz with rfl | rfl
              · exact ⟨by omega, hxx⟩
              · exact absurd rfl hzv⟩
          | true =>
            cases hq : lit A q with
            | true => exact ⟨[-x, -q, v], by simp, v, by simp, .inl rfl, by rw [key, hxx, hq]; rfl, by
                intro z hz hzv; simp only [List.mem_cons, List.not_mem_nil, or_false] at hz
                rcases hz with rfl | rfl | rfl
                · exact ⟨by omega, by rw [hnx, hxx]; rfl⟩
                · exact ⟨by omega, by rw [hnq, hq]; rfl⟩
                · exact absurd rfl hzv⟩
            | false => exact ⟨[q, -v], by simp, -v, by simp, .inr rfl, by rw [hnv, key, hxx, hq]; rfl, by
                intro z hz hzv; simp only [List.mem_cons, List.not_mem_nil, or_false] at hz
                rcases hz with rfl | rfl
                · exact ⟨by omega, hq⟩
                · exact absurd rfl hzv⟩
      · rw [sortCl, if_neg (by rw [hbl]; exact c1), if_neg (by rw [hbl]; exact c2), if_neg c3]
        have hi0 : i = 0 ∧ j = 0 := by omega
        obtain ⟨rfl, rfl⟩ := hi0
        have key : lit A v = lit A x := by
          rw [hv, hlx, hc]
          have : cntTo a l 0 = 0 := by simp [cntTo]
          rw [this]
          cases lit a x <;> simp
        constructor
        · simp only [List.mem_cons, List.not_mem_nil, or_false]
          rintro c (rfl | rfl)
          · exact ⟨by simp only [sat, List.any_cons, List.any_nil, hnx, key]; cases lit A x <;> simp, by simp, wrong_iff.2 ⟨by simp <;> omega, by simp [av] <;> omega⟩⟩
          · exact ⟨by simp only [sat, List.any_cons, List.any_nil, hnv, key]; cases lit A x <;> simp, by simp, wrong_iff.2 ⟨by simp <;> omega, by simp [av] <;> omega⟩⟩
        · cases hxx : lit A x with
          | false => exact ⟨[x, -v], by simp, -v, by simp, .inr rfl, by rw [hnv, key, hxx]; rfl, by
              intro z hz hzv; simp only [List.mem_cons, List.not_mem_nil, or_false] at hz
              rcases hz with rfl | rfl
              · exact ⟨by omega, hxx⟩
              · exact absurd rfl hzv⟩
          | true => exact ⟨[-x, v], by simp, v, by simp, .inl rfl, by rw [key, hxx], by
              intro z hz hzv; simp only [List.mem_cons, List.not_mem_nil, or_false] at hz
              rcases hz with rfl | rfl
              · exact ⟨by omega, by rw [hnx, hxx]; rfl⟩
              · exact absurd rfl hzv⟩

/-! ### The trail -/
theorem must_forced {c t : List Int} {y : Int} (hy : y ∈ c) (h0 : y ≠ 0) (h1 : y ∉ t) (h2 : -y ∉ t) (h : ∀ z ∈ c, z ≠ y → -z ∈ t) : must c t ≠ 0 := by
  have hf : c.find? (free t) = Option.some y := by
    have hex : (c.find? (free t)).isSome := by
      rw [List.find?_isSome]
      exact ⟨y, hy, by simp [free, h1, h2]⟩
    obtain ⟨z, hz⟩ := Option.isSome_iff_exists.1 hex
    have hz1 := List.find?_some hz
    have hz2 := List.mem_of_find?_eq_some hz
    by_cases e : z = y
    · rw [hz, e]
    · exfalso
      have := h z hz2 e
      simp [free, this] at hz1
  have hn : falseIn c t y = true := by
    simp only [falseIn, List.all_eq_true, Bool.or_eq_true, decide_eq_true_eq]
    intro z hz
    by_cases e : z = y
    · exact .inl e
    · exact .inr (h z hz e)
  unfold must
  rw [hf]
  simp only
  rw [if_pos hn]
  exact h0

/-- All that is on the trail is true, once. -/
def Snd (A : List Bool) (t : List Int) : Prop := (∀ x ∈ t, (x ≠ 0 ∧ -(A.length : Int) ≤ x ∧ x ≤ A.length) ∧ lit A x = true) ∧ t.Pairwise fun x y => av x ≠ av y

theorem av_eq {x y : Int} (h : av x = av y) : x = y ∨ x = -y := by unfold av at h; omega

theorem on_snd {A : List Bool} {ls : List (List Int)} (hA : ∀ c ∈ ls, sat A c = true) (hG : ∀ c ∈ ls, Good A.length c) : ∀ {t w : List Int}, Snd A t → Snd A (on ls t w).1 ∧ (on ls t w).2.2 < 0 := by
  intro t w h
  have hno : ¬ 0 ≤ conf ls t := by
    intro hc
    obtain ⟨h1, h2⟩ := idx_mem [] (p := fun l => falseIn l t 0) (l := ls) (by unfold conf at hc; omega)
    have hm := getD_mem ls (idx (fun l => falseIn l t 0) ls).toNat [] h1
    have hs := hA _ hm
    simp only [sat, List.any_eq_true] at hs
    obtain ⟨x, hx, hx1⟩ := hs
    simp only [falseIn, List.all_eq_true, Bool.or_eq_true, decide_eq_true_eq] at h2
    have hg := hG _ hm x hx
    have := (h.1 _ ((h2 x hx).resolve_left hg.1)).2
    rw [lit_neg hg.1, hx1] at this
    cases this
  rw [on, if_neg hno]
  by_cases hu : unit ls t < 0
  · rw [dif_pos hu]; exact ⟨h, by show (-1 : Int) < 0; decide⟩
  · rw [dif_neg hu]
    obtain ⟨h1, h2⟩ := unit_mem hu
    obtain ⟨m1, m2, m3, m4⟩ := must_spec h1
    have hg := hG _ h2 _ m1
    have hs := hA _ h2
    simp only [sat, List.any_eq_true] at hs
    obtain ⟨x, hx, hx1⟩ := hs
    simp only [falseIn, List.all_eq_true, Bool.or_eq_true, decide_eq_true_eq] at m4
    have hxm : x = must (ls.getD (unit ls t).toNat []) t := by
      rcases m4 x hx with e | e
      · exact e
      · have hgx := hG _ h2 x hx
        have := (h.1 _ e).2
        rw [lit_neg hgx.1, hx1] at this
        cases this
    refine on_snd hA hG ⟨?_, ?_⟩
    · intro y hy
      rw [List.mem_append] at hy
      rcases hy with hy | hy
      · exact h.1 y hy
      · simp only [List.mem_cons, List.not_mem_nil, or_false] at hy
        rw [hy]
        exact ⟨hg, by rw [← hxm]; exact hx1⟩
    · rw [List.pairwise_append]
      refine ⟨h.2, by simp, fun y hy z hz e => ?_⟩
      simp only [List.mem_cons, List.not_mem_nil, or_false] at hz
      subst hz
      rcases av_eq e with e | e
      · exact m2 (e ▸ hy)
      · exact m3 (e ▸ hy)
termination_by t => room ls t
decreasing_by exact on_step hu

theorem lits_snd (a : List Bool) : Snd a (literals a) := by
  refine ⟨fun x hx => ?_, ?_⟩
  · have hr : x ≠ 0 ∧ -(a.length : Int) ≤ x ∧ x ≤ a.length := by
      obtain ⟨j, hj, e⟩ := List.mem_map.1 hx
      rw [List.mem_range] at hj
      unfold litAt at e
      split at e <;> omega
    exact ⟨hr, (literals_mem hr).1 hx⟩
  · unfold literals
    rw [List.pairwise_map]
    refine List.pairwise_lt_range.imp (fun {p q} h e => ?_)
    unfold av litAt at e
    split at e <;> split at e <;> omega

theorem sortTo_mem {n : Int} {l : List Int} : ∀ {m : Nat} {c : List Int}, c ∈ (sortTo n l m).2.1 ↔ ∃ i j, i < m ∧ j < i + 1 ∧ c ∈ sortCl (l.getD i 0) ((sortTo n l i).1 + j + 1) (sortTo n l i).2.2 j
  | 0, c => by simp [sortTo]
  | m + 1, c => by
    have hin : ∀ (x N : Int) (b : List Int) (k : Nat), c ∈ sortIn x N b k ↔ ∃ j, j < k ∧ c ∈ sortCl x (N + j + 1) b j := by
      intro x N b k
      induction k with
      | zero => simp [sortIn]
      | succ k ih =>
        simp only [sortIn, List.mem_append, ih]
        constructor
        · rintro (⟨j, h1, h2⟩ | h)
          · exact ⟨j, by omega, h2⟩
          · exact ⟨k, by omega, h⟩
        · rintro ⟨j, h1, h2⟩
          by_cases e : j = k
          · subst e; exact .inr h2
          · exact .inl ⟨j, by omega, h2⟩
    show c ∈ (sortTo n l m).2.1 ++ _ ↔ _
    rw [List.mem_append, sortTo_mem, hin]
    constructor
    · rintro (⟨i, j, h1, h2, h3⟩ | ⟨j, h1, h2⟩)
      · exact ⟨i, j, by omega, h2, h3⟩
      · exact ⟨m, j, by omega, h1, h2⟩
    · rintro ⟨i, j, h1, h2, h3⟩
      by_cases e : i = m
      · subst e; exact .inr ⟨j, h2, h3⟩
      · exact .inl ⟨i, j, by omega, h2, h3⟩

theorem wrong_more {n m : Int} {c : List Int} (h : (wrong n c).1 = 0) (hm : n ≤ m) : (wrong m c).1 = 0 := by
  rw [wrong_iff] at h ⊢
  exact ⟨fun x hx => by have := h.1 x hx; omega, h.2⟩
theorem sat_app {A X : List Bool} {c : List Int} (h : Good A.length c) : sat (A ++ X) c = sat A c := any_congr' (fun x hx => lit_app X (h x hx).1 (h x hx).2)

/-- BATCHER; BAILLEUX, BOUFKHAD. -/
theorem sort_law {n : Int} {a : List Bool} {l : List Int} (hn : (a.length : Int) = n) (hc : (cardWrong n l).1 = 0) (w : List Int) :
    check (sortTo n l l.length).1 (sortTo n l l.length).2.1 = (0, 0) ∧ n ≤ (sortTo n l l.length).1 ∧ (on (sortTo n l l.length).2.1 (literals a) w).2.2 < 0 ∧ ((on (sortTo n l l.length).2.1 (literals a) w).1.length : Int) = (sortTo n l l.length).1 ∧
    ∀ k, k < l.length → (1 ≤ (sortTo n l l.length).2.2.getD k 0 ∧ (sortTo n l l.length).2.2.getD k 0 ≤ (sortTo n l l.length).1) ∧ ((sortTo n l l.length).2.2.getD k 0 ∈ (on (sortTo n l l.length).2.1 (literals a) w).1 ↔ k < holding a l) := by
  obtain ⟨h1, h2, h3, h4⟩ := card_ok hc
  obtain ⟨b1, b2, b3⟩ := sort_bnd l ⟨h1, h2⟩ l.length h3
  have hlen := asg_len l hn l.length
  have mono : ∀ i, i ≤ l.length → (sortTo n l i).1 ≤ (sortTo n l l.length).1 := fun i hi => by
    have := sort_mono (n := n) l i (l.length - i)
    rwa [show i + (l.length - i) = l.length by omega] at this
  have ext : ∀ i, i ≤ l.length → ∃ X, asg a l l.length = asg a l i ++ X := fun i hi => by
    obtain ⟨X, hX⟩ := asg_le a l i (l.length - i)
    rw [show i + (l.length - i) = l.length by omega] at hX
    exact ⟨X, hX⟩
  have cls : ∀ c ∈ (sortTo n l l.length).2.1, sat (asg a l l.length) c = true ∧ c.length ≤ 24 ∧ (wrong (sortTo n l l.length).1 c).1 = 0 := by
    intro c hcm
    obtain ⟨i, j, hi, hj, hcl⟩ := sortTo_mem.1 hcm
    obtain ⟨g1, g2, g3⟩ := (sortCl_law hn h4 hi hj).1 c hcl
    have hN : (sortTo n l i).1 + (j : Int) + 1 ≤ (sortTo n l (i + 1)).1 := by show _ ≤ (sortTo n l i).1 + ((i + 1 : Nat) : Int); omega
    have hm := mono (i + 1) (by omega)
    refine ⟨?_, g2, wrong_more g3 (by omega)⟩
    obtain ⟨X, hX⟩ := ext (i + 1) (by omega)
    have hl2 := asg_len l hn (i + 1)
    rw [hX, sat_app (fun x hx => by have := wrong_ok g3 x hx; omega)]
    exact g1
  have hGd : ∀ c ∈ (sortTo n l l.length).2.1, Good (asg a l l.length).length c := fun c hcm x hx => by
    have := wrong_ok (cls c hcm).2.2 x hx
    omega
  have hchk := check_of (n := (sortTo n l l.length).1) (ls := (sortTo n l l.length).2.1) (by omega) (by omega) (fun c hcm => (cls c hcm).2)
  obtain ⟨X0, hX0⟩ := ext 0 (Nat.zero_le _)
  have hX0 : asg a l l.length = a ++ X0 := hX0
  have hs0 : Snd (asg a l l.length) (literals a) := by
    have h0 := lits_snd a
    refine ⟨fun x hx => ?_, h0.2⟩
    have := h0.1 x hx
    refine ⟨by omega, ?_⟩
    rw [hX0, lit_app X0 this.1.1 this.1.2]
    exact this.2
  obtain ⟨s1, s2⟩ := on_snd (fun c hcm => (cls c hcm).1) hGd (w := w) hs0
  obtain ⟨e1, e2, e3⟩ := on_end s2
  generalize (on (sortTo n l l.length).2.1 (literals a) w).1 = t at s1 e1 e2 e3 ⊢
  have full : ∀ i, i ≤ l.length → ∀ v, 1 ≤ v → v ≤ (sortTo n l i).1 → v ∈ t ∨ -v ∈ t := by
    intro i
    induction i with
    | zero =>
      intro _ v hv1 hv2
      have hv2 : v ≤ n := hv2
      rcases literals_full (a := a) (x := v) (by omega) with h | h
      · exact .inl (e3 _ h)
      · exact .inr (e3 _ h)
    | succ i ih =>
      intro hi v hv1 hv2
      have hv2 : v ≤ (sortTo n l i).1 + ((i + 1 : Nat) : Int) := hv2
      by_cases hv : v ≤ (sortTo n l i).1
      · exact ih (by omega) v hv1 hv
      · obtain ⟨j, hj, hjv⟩ : ∃ j : Nat, j < i + 1 ∧ (sortTo n l i).1 + (j : Int) + 1 = v := ⟨(v - (sortTo n l i).1 - 1).toNat, by omega, by omega⟩
        obtain ⟨c, hcm, y, hy, hyv, _, hz⟩ := (sortCl_law (a := a) hn h4 (i := i) (by omega) hj).2
        rw [hjv] at hcm hyv
        have hin : c ∈ (sortTo n l l.length).2.1 := sortTo_mem.2 ⟨i, j, by omega, hj, by rw [hjv]; exact hcm⟩
        refine Classical.byContradiction fun hno => ?_
        have hv3 : v ∉ t := fun h => hno (.inl h)
        have hv4 : -v ∉ t := fun h => hno (.inr h)
        have hmust := idx_neg e2 c hin
        simp only [Bool.not_eq_false', decide_eq_true_eq] at hmust
        have y0 : y ≠ 0 := by rcases hyv with e | e <;> omega
        have y1 : y ∉ t := by
          rcases hyv with e | e
          · rw [e]; exact hv3
          · rw [e]; exact hv4
        have y2 : -y ∉ t := by
          rcases hyv with e | e
          · rw [e]; exact hv4
          · rw [e, Int.neg_neg]; exact hv3
        refine must_forced hy y0 y1 y2 (fun z hzc hzy => ?_) hmust
        obtain ⟨r1, r2⟩ := hz z hzc hzy
        have hor : z ∈ t ∨ -z ∈ t := by
          by_cases hp : 0 < z
          · exact ih (by omega) z (by omega) (by omega)
          · rcases ih (by omega) (-z) (by omega) (by omega) with h | h
            · exact .inr h
            · rw [Int.neg_neg] at h; exact .inl h
        refine hor.resolve_left (fun h => ?_)
        have ht := (s1.1 z h).2
        obtain ⟨X, hX⟩ := ext (i + 1) hi
        have hl2 := asg_len l hn (i + 1)
        have hl3 : (sortTo n l (i + 1)).1 = (sortTo n l i).1 + ((i + 1 : Nat) : Int) := rfl
        rw [hX, lit_app X r1.1 (by omega), r2] at ht
        cases ht
  have hall := full l.length (Nat.le_refl _)
  refine ⟨hchk, b1.1, s2, ?_, ?_⟩
  · have hnd : (t.map av).Nodup := by rw [List.Nodup, List.pairwise_map]; exact s1.2
    have u1 := len_sub (b := (List.range (asg a l l.length).length).map fun (q : Nat) => (q : Int) + 1) hnd (fun x hx => by
      obtain ⟨y, hy, rfl⟩ := List.mem_map.1 hx
      have := (s1.1 y hy).1
      rw [List.mem_map]
      refine ⟨(av y - 1).toNat, List.mem_range.2 ?_, ?_⟩ <;> unfold av <;> omega)
    have nd2 : ((List.range (asg a l l.length).length).map fun (q : Nat) => (q : Int) + 1).Nodup := by
      rw [List.Nodup, List.pairwise_map]
      exact List.pairwise_lt_range.imp (fun {p q} h => by omega)
    have u2 := len_sub (b := t.map av) nd2 (fun x hx => by
      obtain ⟨q, hq, rfl⟩ := List.mem_map.1 hx
      rw [List.mem_range] at hq
      rw [List.mem_map]
      rcases hall ((q : Int) + 1) (by omega) (by omega) with h | h
      · exact ⟨_, h, by unfold av; omega⟩
      · exact ⟨_, h, by unfold av; omega⟩)
    simp only [List.length_map, List.length_range] at u1 u2
    omega
  · intro k hk
    have hmem := getD_mem (sortTo n l l.length).2.2 k 0 (by rw [sortTo_len]; exact hk)
    have hb := b3 _ hmem
    obtain ⟨_, hv⟩ := before_is (a := a) (l := l) hn hk
    refine ⟨hb, ?_⟩
    have hcn : cntTo a l l.length = holding a l := by unfold cntTo holding; rw [List.take_length]
    rw [hcn] at hv
    constructor
    · intro h
      have := (s1.1 _ h).2
      rw [hv] at this
      exact of_decide_eq_true this
    · intro h
      rcases hall _ hb.1 hb.2 with h2 | h2
      · exact h2
      · have := (s1.1 _ h2).2
        rw [lit_neg (by omega), hv, decide_eq_true h] at this
        cases this
end Sp
end Go.Um
namespace Go.Um
namespace Sp
theorem sorted_one : (sorted 1 [1]).2.2.1.length = 1 ∧ (sorted 1 [1]).2.2.2.1 = 0 := by
  have h : cardWrong 1 [1] = (0, 0) := by simp [cardWrong, listed, wrong, wrongFrom, dup, Int.max_def]
  rw [sorted, h, if_neg (by decide)]
  exact ⟨sortTo_len 1 [1] 1, rfl⟩
end Sp
end Go.Um
