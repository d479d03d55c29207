/- Plain laws: what a search answers of few clauses. No program in sight. No condition. -/
import Derived.Test.YtfjafkocejoigaaGreatPD
import Derived.Test.YtfjafkocejoigaaGreatSq7
namespace Go.Um
namespace Sp

theorem beside_nil {n : Int} {ls : List (List Int)} (h : (check n ls).1 = 0) : (beside n ls []).1 = 0 := by
  rw [beside, if_pos h]
  simp [listed, wrong, wrongFrom]
structure Two (m : Nat) (ls : List (List Int)) (A : Ans) : Prop where
  or_ : OutY m ls [] A ∨ OutN m ls [] A
  can : A.1 = 1 ↔ Can m ls
  st : A.1 = 1 ∨ A.1 = 2
  us : 0 ≤ A.2.2.2.2 ∧ A.2.2.2.2 ≤ 2000
theorem two_of {m : Nat} {ls : List (List Int)} {a b c d : Int} (hck : (check m ls).1 = 0) (hm : m ≤ 12) (hl : ls.length ≤ 40) (ho : (optW a b c d 2000).1 = 0) : ∃ A : Ans, doOf m ls [] a b c d 2000 = (A, 0, 0) ∧ Two m ls A := by
  have hb := beside_nil hck
  obtain ⟨m', e, hfit⟩ := fit_of hb
  obtain rfl : m' = m := by omega
  refine ⟨_, doOf_go hb ho, ?_⟩
  have h2 := do_two (ph := decide (d = 1)) hfit hm hl
  have hk := do_ok (ph := decide (d = 1)) (fuel := 2000) hfit (by omega)
  refine ⟨h2, ?_, ?_, hk.2⟩
  · rcases h2 with h | h
    · exact ⟨fun _ => ⟨_, h.len, h.ls⟩, fun _ => h.st⟩
    · refine ⟨fun h3 => by rw [h.st] at h3; exact absurd h3 (by decide), fun ⟨x, _, hx⟩ => ?_⟩
      exact (h.none hfit hx (fun y hy => by rw [h.zero rfl] at hy; cases hy)).elim
  · rcases h2 with h | h
    · exact .inl h.st
    · exact .inr h.st
def sureC : List (List Int) := [[1], [-1]]
theorem sure_ck : (check 1 sureC).1 = 0 := by simp [sureC, check, checkFrom, wrong, wrongFrom, dup, Int.max_def]
theorem sure_no : ∃ A : Ans, doOf 1 sureC [] 0 0 0 0 2000 = (A, 0, 0) ∧ A.1 = 2 := by
  obtain ⟨A, h1, h2⟩ := two_of (m := 1) sure_ck (by decide) (by decide) opt0
  refine ⟨A, h1, h2.st.resolve_left fun h => ?_⟩
  obtain ⟨x, _, hx⟩ := h2.can.1 h
  have h1 := all_iff.1 hx
  obtain ⟨y, hy, hy2⟩ := h1 [1] (by decide)
  obtain ⟨z, hz, hz2⟩ := h1 [-1] (by decide)
  rw [List.mem_singleton.1 hy] at hy2
  rw [List.mem_singleton.1 hz, litV_neg (by decide), hy2] at hz2
  cases hz2
theorem had_step {c : List Int} {v : Int} {i : Nat} (h : i < c.length) : had (c.take (i + 1)) v = (had (c.take i) v || decide (c.getD i 0 = v) || decide (c.getD i 0 = -v)) := by
  unfold had
  rw [take_getD c i 0 h, List.any_append]
  simp [Bool.or_assoc]
theorem take_same {l : List Int} {i n : Nat} (h : i = n ∨ (l.length ≤ i ∧ l.length ≤ n)) : l.take n = l.take i := by
  rcases h with rfl | ⟨h1, h2⟩
  · rfl
  · rw [List.take_of_length_le h1, List.take_of_length_le h2]
theorem swp_eq {d : List Int} {j : Nat} (h : 1 ≤ j) : (d.set j (d.getD (j - 1) 0)).set (j - 1) (d.getD j 0) = swp d (j - 1) := by
  unfold swp
  rw [Nat.sub_add_cancel h]
theorem insJ_less {c : List Int} {j : Nat} (h : 1 ≤ j) (h2 : av (c.getD j 0) < av (c.getD (j - 1) 0)) : insJ j c = insJ (j - 1) (swp c (j - 1)) := by
  have h3 := insJ_go (c := c) (j := j - 1) (by rw [Nat.sub_add_cancel h]; exact h2)
  rwa [Nat.sub_add_cancel h] at h3
theorem insJ_stop {c : List Int} {j : Nat} (h : j = 0 ∨ ¬ av (c.getD j 0) < av (c.getD (j - 1) 0)) : insJ j c = c := by
  cases j with
  | zero => rfl
  | succ j => exact insJ_no (h.resolve_left (by omega))
theorem insTo_end {c : List Int} {i : Nat} (h : c.length ≤ i) (h2 : i ≤ c.length ∨ i = 1) : insTo c i = insTo c c.length := by
  by_cases e : i = c.length
  · rw [e]
  · obtain rfl : i = 1 := by omega
    have : c.length = 0 := by omega
    rw [this]
    rfl
end Sp
end Go.Um
