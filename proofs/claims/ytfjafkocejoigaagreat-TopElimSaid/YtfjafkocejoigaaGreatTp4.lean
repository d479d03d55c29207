/- Plain laws: a variable that goes, step by step. No program in sight. No condition. -/
import Derived.Test.YtfjafkocejoigaaGreatTp3
namespace Go.Um
namespace Sp

section
variable {l : List (List Int)} {v : Int} {i : Nat}
theorem el_w (hi : i < l.length) (h : v ∈ l.getD i []) : elW (l.take (i + 1)) v = elW (l.take i) v ++ [l.getD i []] ∧ elN (l.take (i + 1)) v = elN (l.take i) v ∧ elR (l.take (i + 1)) v = elR (l.take i) v := by
  unfold elW elN elR
  rw [take_getD l i [] hi]
  simp only [List.filter_append]
  generalize l.getD i [] = c at *
  simp [h]
theorem el_n (hi : i < l.length) (h : v ∉ l.getD i []) (h2 : -v ∈ l.getD i []) : elW (l.take (i + 1)) v = elW (l.take i) v ∧ elN (l.take (i + 1)) v = elN (l.take i) v ++ [l.getD i []] ∧ elR (l.take (i + 1)) v = elR (l.take i) v := by
  unfold elW elN elR
  rw [take_getD l i [] hi]
  simp only [List.filter_append]
  generalize l.getD i [] = c at *
  simp [h, h2]
theorem el_r (hi : i < l.length) (h : v ∉ l.getD i []) (h2 : -v ∉ l.getD i []) : elW (l.take (i + 1)) v = elW (l.take i) v ∧ elN (l.take (i + 1)) v = elN (l.take i) v ∧ elR (l.take (i + 1)) v = elR (l.take i) v ++ [l.getD i []] := by
  unfold elW elN elR
  rw [take_getD l i [] hi]
  simp only [List.filter_append]
  generalize l.getD i [] = c at *
  simp [h, h2]
theorem elW_len : (elW (l.take i) v).length ≤ l.length := Nat.le_trans (List.length_filter_le _ _) (List.length_take_le' _ _)
theorem elN_len : (elN (l.take i) v).length ≤ l.length := Nat.le_trans (List.length_filter_le _ _) (List.length_take_le' _ _)
theorem elR_len : (elR (l.take i) v).length ≤ l.length := Nat.le_trans (List.length_filter_le _ _) (List.length_take_le' _ _)
theorem elQ_yes {m : List (List Int)} {a : List Int} {j : Nat} (hj : j < m.length) (h : (resolve a (m.getD j []) v).isSome = true) : elQ (m.take (j + 1)) v a = elQ (m.take j) v a ++ [(resolve a (m.getD j []) v).getD []] := by
  unfold elQ
  rw [take_getD m j [] hj, List.filterMap_append]
  generalize m.getD j [] = b at *
  cases e : resolve a b v with
  | none => rw [e] at h; cases h
  | some r => simp [e]
theorem elQ_no {m : List (List Int)} {a : List Int} {j : Nat} (hj : j < m.length) (h : (resolve a (m.getD j []) v).isSome = false) : elQ (m.take (j + 1)) v a = elQ (m.take j) v a := by
  unfold elQ
  rw [take_getD m j [] hj, List.filterMap_append]
  generalize m.getD j [] = b at *
  cases e : resolve a b v with
  | none => simp [e]
  | some r => rw [e] at h; cases h
theorem elP_step {w m : List (List Int)} {p : Nat} (hp : p < w.length) : elP (w.take (p + 1)) m v = elP (w.take p) m v ++ elQ m v (w.getD p []) := by
  unfold elP
  rw [take_getD w p [] hp, List.flatMap_append]
  simp
theorem elQ_len {m : List (List Int)} {a : List Int} {j : Nat} : (elQ (m.take j) v a).length ≤ m.length := Nat.le_trans (List.length_filterMap_le _ _) (List.length_take_le' _ _)
theorem elP_len {w m : List (List Int)} : (elP w m v).length ≤ w.length * m.length := by
  unfold elP
  induction w with
  | nil => simp
  | cons a w ih =>
    have h : (elQ m v a).length ≤ m.length := List.length_filterMap_le _ _
    rw [List.flatMap_cons, List.length_append, List.length_cons, Nat.succ_mul]
    omega
theorem elP_room {w m : List (List Int)} {p : Nat} (hw : w.length ≤ 400) (hm : m.length ≤ 400) : (elP (w.take p) m v).length ≤ 160000 := by
  have h1 := elP_len (w := w.take p) (m := m) (v := v)
  have h2 : (w.take p).length ≤ w.length := List.length_take_le' _ _
  have h3 : (w.take p).length * m.length ≤ 400 * 400 := Nat.mul_le_mul (by omega) hm
  omega
theorem el_okc {n : Nat} (hok : ∀ c ∈ l, Okc n c) : ∀ c ∈ elR l v ++ elP (elW l v) (elN l v) v, Okc n c := by
  intro d hd
  rcases List.mem_append.1 hd with hd | hd
  · exact hok d (List.mem_filter.1 hd).1
  · obtain ⟨a, ha, hd⟩ := List.mem_flatMap.1 hd
    obtain ⟨b, hb, hd⟩ := List.mem_filterMap.1 hd
    exact resolve_okc (hok a (List.mem_filter.1 ha).1) (hok b (List.mem_filter.1 hb).1) hd
end
theorem mem_step {c : List Int} {v : Int} {k : Nat} (h : k < c.length) : decide (v ∈ c.take (k + 1)) = (decide (v ∈ c.take k) || decide (c.getD k 0 = v)) := by
  rw [take_getD c k 0 h]
  generalize c.getD k 0 = x
  rw [Bool.eq_iff_iff, Bool.or_eq_true, decide_eq_true_eq, decide_eq_true_eq, decide_eq_true_eq, List.mem_append, List.mem_singleton]
  exact or_congr Iff.rfl ⟨fun h => h.symm, fun h => h.symm⟩
theorem okc_fine {n : Nat} {c : List Int} (hn : n ≤ 1000) (h : Okc n c) : c.length ≤ 1000000 ∧ ∀ x ∈ c, -9223372036854775808 < x ∧ x ≤ 9223372036854775807 := by
  have := okc_len h
  refine ⟨by omega, fun x hx => ?_⟩
  have := h.1 x hx
  omega
theorem okc_two {n : Nat} {a b : List Int} (hn : n ≤ 1000) (ha : Okc n a) (hb : Okc n b) : (∀ x ∈ a ++ b, -9223372036854775808 < x ∧ x ≤ 9223372036854775807) ∧ a.length + b.length ≤ 1000000 := by
  have h1 := okc_len ha
  have h2 := okc_len hb
  exact ⟨fun x hx => (List.mem_append.1 hx).elim ((okc_fine hn ha).2 x) ((okc_fine hn hb).2 x), by omega⟩

/-! ### Several -/
def stgTo (ls : List (List Int)) (vs : List Int) (i : Nat) : List (List (List Int)) := (List.range (i + 1)).map (stg ls vs)
def stgL (ls : List (List Int)) (vs : List Int) : List (List (List Int)) := if (stgF ls vs vs.length 0).1 = 0 then stgTo ls vs vs.length else []
section
variable {ls : List (List Int)} {vs : List Int} {i j f : Nat}
theorem stgTo_len : (stgTo ls vs i).length = i + 1 := by simp [stgTo]
theorem stgTo_get (h : j ≤ i) : (stgTo ls vs i).getD j [] = stg ls vs j := by
  unfold stgTo
  rw [List.getD_eq_getElem?_getD, List.getElem?_map, List.getElem?_range (by omega)]
  rfl
theorem stgTo_step : stgTo ls vs (i + 1) = stgTo ls vs i ++ [stg ls vs (i + 1)] := by
  unfold stgTo
  rw [List.range_succ, List.map_append]
  rfl
theorem stgL_yes (h : (stgF ls vs vs.length 0).1 = 0) : stgL ls vs = stgTo ls vs vs.length := if_pos h
theorem stgL_no (h : (stgF ls vs vs.length 0).1 ≠ 0) : stgL ls vs = [] := if_neg h
theorem stgF_big (hf : 0 < f) (h : bigB (stg ls vs (i + 1)) = true) : stgF ls vs f i = (10, (i : Int)) := by
  cases f with
  | zero => omega
  | succ f => rw [stgF, if_pos h]
theorem stgF_next (hf : 0 < f) (h : bigB (stg ls vs (i + 1)) = false) : stgF ls vs f i = stgF ls vs (f - 1) (i + 1) := by
  cases f with
  | zero => omega
  | succ f => rw [stgF, if_neg (by rw [h]; decide)]; rfl
theorem stg_few (h0 : ls.length ≤ 400) (h : ∀ k, 1 ≤ k → k ≤ j → bigB (stg ls vs k) = false) : (stg ls vs j).length ≤ 400 := by
  cases j with
  | zero => exact Nat.le_trans (nrm_len ls) h0
  | succ j =>
    have hb := h (j + 1) (by omega) (Nat.le_refl _)
    unfold bigB at hb
    rw [Bool.or_eq_false_iff] at hb
    have := of_decide_eq_false hb.1
    omega
theorem elimO_bad {n : Int} (h : (stgF ls vs vs.length 0).1 ≠ 0) : elimO n ls vs = (0, [], stgF ls vs vs.length 0) := if_pos h
theorem elimO_ok {n : Int} (h : (stgF ls vs vs.length 0).1 = 0) : elimO n ls vs = (n, stg ls vs vs.length, 0, 0) := if_neg (fun h2 => h2 h)
theorem elim_zero {n : Int} (h : (elimO n ls vs).2.2.1 = 0) : (stgF ls vs vs.length 0).1 = 0 := by
  refine Decidable.byContradiction fun h2 => h2 ?_
  rw [elimO_bad h2] at h
  exact h
theorem elim_ten {n : Int} (h : ¬ (elimO n ls vs).2.2.1 = 0) : (elimO n ls vs).2.2.1 = 10 := by
  by_cases h2 : (stgF ls vs vs.length 0).1 = 0
  · rw [elimO_ok h2] at h; exact absurd rfl h
  · rw [elimO_bad h2]
    exact (stgF_code _ _).resolve_left h2
theorem beside_ok {n : Nat} (h : (beside n ls vs).1 = 0) : (check n ls).1 = 0 ∧ Okc n vs := by
  have hck := check_of_beside h
  refine ⟨hck, ?_⟩
  rw [beside, if_pos hck] at h
  unfold listed at h
  split at h
  · rename_i h6; exact absurd h h6
  · rename_i h6; exact wrong_iff.1 (Decidable.byContradiction h6)
theorem beside_mk {n : Nat} (h : (check n ls).1 = 0) (hv : Okc n vs) : (beside n ls vs).1 = 0 := by
  rw [beside, if_pos h]
  have := wrong_iff.2 hv
  simp [listed, this]
theorem mend_step {x : List Bool} (hj : 0 < j) : mendF ls vs j x = mendF ls vs (j - 1) (mend1 (stg ls vs (j - 1)) (vs.getD (j - 1) 0) x) := by
  cases j with
  | zero => omega
  | succ j => rfl
theorem mend_set {l : List (List Int)} {v : Int} {x : List Bool} : (x.set (v - 1).toNat false).set (v - 1).toNat (!all (x.set (v - 1).toNat false) l) = mend1 l v x := by
  unfold mend1
  rw [List.set_set]
end
end Sp
end Go.Um
