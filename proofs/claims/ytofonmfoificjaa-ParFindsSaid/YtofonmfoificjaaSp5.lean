/- Plain laws: CardMust. No program in sight. No condition. -/
import Derived.Test.YtofonmfoificjaaSp4
namespace Go.Um
namespace Sp

theorem on_end {ls : List (List Int)} : ∀ {t w : List Int}, (on ls t w).2.2 < 0 → conf ls (on ls t w).1 < 0 ∧ unit ls (on ls t w).1 < 0 ∧ ∀ x ∈ t, x ∈ (on ls t w).1 := by
  intro t w
  induction hm : room ls t using Nat.strongRecOn generalizing t w with
  | _ m ih =>
    rw [on]
    by_cases hc : 0 ≤ conf ls t
    · rw [if_pos hc]; intro h; exact absurd hc (by simpa using h)
    · rw [if_neg hc]
      by_cases hu : unit ls t < 0
      · rw [dif_pos hu]; intro _; exact ⟨by simpa using hc, hu, fun x hx => hx⟩
      · rw [dif_neg hu]
        intro h
        obtain ⟨h1, h2, h3⟩ := ih _ (hm ▸ on_step hu) rfl h
        exact ⟨h1, h2, fun x hx => h3 x (List.mem_append_left _ hx)⟩

theorem idx_neg {α : Type} {p : α → Bool} {l : List α} (h : idx p l < 0) : ∀ x ∈ l, p x = false := by
  have h1 := idx_any p l
  rw [decide_eq_false (by omega)] at h1
  intro x hx
  have := List.any_eq_false.1 h1.symm x hx
  simpa using this

theorem len_sub {α : Type} [DecidableEq α] : ∀ {a b : List α}, a.Nodup → (∀ x ∈ a, x ∈ b) → a.length ≤ b.length
  | [], _, _, _ => Nat.zero_le _
  | x :: a, b, hn, h => by
    have hx := h x (List.mem_cons_self ..)
    rw [List.nodup_cons] at hn
    have := len_sub (a := a) (b := b.erase x) hn.2 (fun y hy => by
      have hne : y ≠ x := by rintro rfl; exact hn.1 hy
      exact (List.mem_erase_of_ne hne).2 (h y (List.mem_cons_of_mem _ hy)))
    rw [List.length_erase_of_mem hx] at this
    have hpos : 0 < b.length := List.length_pos_of_mem hx
    simp only [List.length_cons]
    omega

theorem nodup_of {l : List Int} (h : l.Pairwise fun x y => av x ≠ av y) : l.Nodup := h.imp (fun hab e => hab (by rw [e]))

/-- As soon as k are asked, the others are not. -/
theorem must_most {n k : Int} {l S : List Int} (hl : (wrong n l).1 = 0) (hS : S.Nodup) (hSl : ∀ y ∈ S, y ∈ l) (hk : (S.length : Int) = k) (hend : (on (some (negs l) (k + 1)) S (List.replicate S.length (-1))).2.2 < 0) :
    ∀ x ∈ l, x ∉ S → -x ∈ (on (some (negs l) (k + 1)) S (List.replicate S.length (-1))).1 := by
  intro x hx hxS
  obtain ⟨h1, h2, h3⟩ := on_end hend
  generalize (on (some (negs l) (k + 1)) S (List.replicate S.length (-1))).1 = T at h1 h2 h3
  rw [wrong_iff] at hl
  have hnd := nodup_of hl.2
  have hx0 := (hl.1 x hx).1
  let c := negs (l.filter fun y => decide (y ∈ S ∨ y = x))
  have hsub : c.Sublist (negs l) := List.filter_sublist.map _
  have hlen : c.length = S.length + 1 := by
    have e : c.length = (l.filter fun y => decide (y ∈ S ∨ y = x)).length := by simp [c, negs]
    rw [e]
    have h4 := len_sub (a := S ++ [x]) (b := l.filter fun y => decide (y ∈ S ∨ y = x)) (by
      rw [List.nodup_append]
      exact ⟨hS, by simp, fun y hy z hz => by rw [List.mem_singleton.1 hz]; rintro rfl; exact hxS hy⟩) (fun y hy => by
      rw [List.mem_filter]
      rcases List.mem_append.1 hy with h | h
      · exact ⟨hSl y h, by simp [h]⟩
      · rw [List.mem_singleton.1 h]; exact ⟨hx, by simp⟩)
    have h5 := len_sub (a := l.filter fun y => decide (y ∈ S ∨ y = x)) (b := S ++ [x]) (hnd.filter _) (fun y hy => by
      have := (List.mem_filter.1 hy).2
      simp only [decide_eq_true_eq] at this
      rcases this with h | h
      · exact List.mem_append_left _ h
      · exact List.mem_append_right _ (by simp [h]))
    simp only [List.length_append, List.length_cons, List.length_nil] at h4 h5
    omega
  have hc : c ∈ some (negs l) (k + 1) := by
    have := some_of hsub
    rw [hlen] at this
    have e : k + 1 = ((S.length + 1 : Nat) : Int) := by omega
    rw [e]
    exact this
  have hmem : ∀ z ∈ c, z = -x ∨ -z ∈ T := by
    intro z hz
    simp only [c, negs, List.mem_map, List.mem_filter, decide_eq_true_eq] at hz
    obtain ⟨y, ⟨_, hy⟩, rfl⟩ := hz
    rcases hy with hy | hy
    · exact .inr (by rw [Int.neg_neg]; exact h3 y hy)
    · exact .inl (by rw [hy])
  have hxc : -x ∈ c := by
    simp only [c, negs, List.mem_map, List.mem_filter, decide_eq_true_eq]
    exact ⟨x, ⟨hx, .inr rfl⟩, rfl⟩
  have hconf := idx_neg h1 c hc
  have hunit := idx_neg h2 c hc
  simp only [Bool.not_eq_false', decide_eq_true_eq] at hunit
  apply Decidable.byContradiction
  intro hnx
  by_cases hxT : x ∈ T
  · have : falseIn c T 0 = true := by
      rw [falseIn, List.all_eq_true]
      intro z hz
      rw [Bool.or_eq_true, decide_eq_true_eq, decide_eq_true_eq]
      right
      rcases hmem z hz with rfl | h
      · rw [Int.neg_neg]; exact hxT
      · exact h
    rw [this] at hconf
    cases hconf
  · have hfree : free T (-x) = true := by
      simp only [free, Bool.and_eq_true, Bool.not_eq_true', decide_eq_false_iff_not, Int.neg_neg]
      exact ⟨hnx, hxT⟩
    have hfind : c.find? (free T) = Option.some (-x) := by
      cases hf : c.find? (free T) with
      | none => exact absurd hfree (List.find?_eq_none.1 hf _ hxc)
      | some z =>
        have hz := List.find?_some hf
        rcases hmem z (List.mem_of_find?_eq_some hf) with rfl | h
        · rfl
        · simp only [free, Bool.and_eq_true, Bool.not_eq_true', decide_eq_false_iff_not] at hz
          exact absurd h hz.2
    have hfi : falseIn c T (-x) = true := by
      rw [falseIn, List.all_eq_true]
      intro z hz
      rw [Bool.or_eq_true, decide_eq_true_eq, decide_eq_true_eq]
      exact hmem z hz
    rw [must, hfind] at hunit
    simp only [hfi, if_true] at hunit
    omega

theorem check_use' {n : Int} {ls : List (List Int)} (h : (check n ls).1 = 0) : (∀ l ∈ ls, Fine l) ∧ ls.flatten.length ≤ 100000000 := by
  obtain ⟨h1, h2, h3⟩ := check_ok h
  refine ⟨fun l hl x hx => ?_, ?_⟩
  · have := wrong_ok (h3 l hl).2 x hx
    omega
  · have := flat_bound (b := 24) (fun l hl => (h3 l hl).1)
    omega

theorem most_bad {n : Int} {l : List Int} {k : Int} (h : ¬ (most n l k).2.2.1 = 0) : most n l k = (0, [], counted n l k) := by
  unfold most at h ⊢
  split
  · rfl
  · rename_i h1
    rw [if_neg h1] at h
    exact absurd rfl h

theorem most_good {n : Int} {l : List Int} {k : Int} (h : (most n l k).2.2.1 = 0) : (counted n l k).1 = 0 ∧ most n l k = (n, some (negs l) (k + 1), 0, 0) := by
  unfold most at h ⊢
  split at h
  · rename_i h1; exact absurd h h1
  · rename_i h1
    rw [if_neg h1]
    exact ⟨by simpa using h1, rfl⟩

theorem mod_inj {i j w m : Int} (h1 : 0 ≤ j) (h2 : j < i) (h3 : i < m) (h : (i + w) % m = (j + w) % m) : False := by
  have hm : 0 < m := by omega
  have := Int.emod_emod_of_dvd (i + w - (j + w)) (Int.dvd_refl m)
  have h4 : (i + w - (j + w)) % m = 0 := by rw [Int.sub_emod, h, Int.sub_self, Int.zero_emod]
  have h5 : i + w - (j + w) = i - j := by omega
  rw [h5, Int.emod_eq_of_lt (by omega) (by omega)] at h4
  omega

def Rot (l : List Int) (w : Int) (i : Nat) (S : List Int) : Prop := S.Nodup ∧ ∀ y ∈ S, ∃ j : Nat, j < i ∧ y = l.getD (((j : Int) + w) % (l.length : Int)).toNat 0

theorem rot_step {l : List Int} {w : Int} {i : Nat} {S : List Int} (hl : l.Nodup) (hi : i < l.length) (h : Rot l w i S) : Rot l w (i + 1) (S ++ [l.getD (((i : Int) + w) % (l.length : Int)).toNat 0]) := by
  have hb : ∀ j : Nat, (((j : Int) + w) % (l.length : Int)).toNat < l.length ∧ 0 ≤ ((j : Int) + w) % (l.length : Int) := fun j => by
    have h1 := Int.emod_nonneg ((j : Int) + w) (b := (l.length : Int)) (by omega)
    have h2 := Int.emod_lt_of_pos ((j : Int) + w) (b := (l.length : Int)) (by omega)
    omega
  refine ⟨?_, fun y hy => ?_⟩
  · rw [List.nodup_append]
    refine ⟨h.1, by simp, fun y hy z hz e => ?_⟩
    rw [List.mem_singleton.1 hz] at e
    obtain ⟨j, hj, rfl⟩ := h.2 y hy
    simp only [List.getD, List.getElem?_eq_getElem (hb j).1, List.getElem?_eq_getElem (hb i).1, Option.getD_some] at e
    have := (List.getElem_inj hl).1 e
    have h3 := hb i
    have h4 := hb j
    exact mod_inj (i := i) (j := j) (w := w) (m := l.length) (by omega) (by omega) (by omega) (by omega)
  · rcases List.mem_append.1 hy with h1 | h1
    · obtain ⟨j, hj, e⟩ := h.2 y h1
      exact ⟨j, by omega, e⟩
    · exact ⟨i, by omega, List.mem_singleton.1 h1⟩

theorem rot_weak {l : List Int} {w : Int} {i : Nat} {S : List Int} (h : Rot l w i S) : Rot l w (i + 1) S := ⟨h.1, fun y hy => by obtain ⟨j, hj, e⟩ := h.2 y hy; exact ⟨j, by omega, e⟩⟩

theorem rot_sub {l : List Int} {w : Int} {i : Nat} {S : List Int} (hi : i ≤ l.length) (h : Rot l w i S) : ∀ y ∈ S, y ∈ l := by
  intro y hy
  obtain ⟨j, hj, rfl⟩ := h.2 y hy
  have h1 := Int.emod_nonneg ((j : Int) + w) (b := (l.length : Int)) (by omega)
  have h2 := Int.emod_lt_of_pos ((j : Int) + w) (b := (l.length : Int)) (by omega)
  exact getD_mem l _ 0 (by omega)
end Sp
end Go.Um
