/- Plain laws: with a core alone. No program in sight. No condition. -/
import Derived.Test.YtpjenbbalengoaaPB
namespace Go.Um
namespace Sp

theorem beside_of {m : Nat} {ls : List (List Int)} {asked core : List Int} (h : (beside m ls asked).1 = 0) (hf : Fit m ls asked) (h2 : core.Pairwise fun x y => x < y) (h3 : ∀ x ∈ core, x ∈ asked) : (beside m ls core).1 = 0 := by
  unfold beside at h ⊢
  by_cases h1 : (check m ls).1 = 0
  · rw [if_pos h1]
    have hw : (wrong m core).1 = 0 := by
      refine wrong_iff.2 ⟨fun x hx => ?_, ?_⟩
      · have := hf.ga x (h3 x hx)
        omega
      · rw [List.pairwise_iff_getElem] at h2 ⊢
        intro i j hi hj hij e
        have h4 := h2 i j hi hj hij
        have hx := h3 _ (List.getElem_mem hi)
        have hy := h3 _ (List.getElem_mem hj)
        unfold av at e
        have h5 : core[j] = -core[i] := by omega
        rw [h5] at hy
        exact (hf.ca.2 _ hx).2 hy
    unfold listed
    rw [if_neg (fun h5 => h5 hw)]
  · rw [if_neg h1] at h; exact absurd h h1

theorem core_again {m : Nat} {ls : List (List Int)} {asked : List Int} {A : Ans} (h : (beside m ls asked).1 = 0) (hf : Fit m ls asked) (hm : m ≤ 12) (hl : ls.length ≤ 40) (hA : OutN m ls asked A) : (doOf m ls A.2.2.2.1 0 0 0 0 2000).1.1 = 2 ∧ (doOf m ls A.2.2.2.1 0 0 0 0 2000).2.1 = 0 := by
  have hb := beside_of h hf hA.up hA.sub
  obtain ⟨m', e, hf2⟩ := fit_of hb
  obtain rfl : m' = m := by omega
  rw [doOf_go hb opt0]
  refine ⟨?_, rfl⟩
  rcases do_two (ph := decide ((0 : Int) = 1)) hf2 hm hl with h1 | h1
  · exact (hA.none hf h1.ls h1.asked).elim
  · exact h1.st

theorem core_step {asked core : List Int} (h1 : ∀ x ∈ core, x ∈ asked) (h2 : core.Pairwise fun x y => x < y) {i : Nat} (hi : i < core.length) : core.getD i 0 ∈ asked ∧ (0 < i → core.getD (i - 1) 0 < core.getD i 0) := by
  refine ⟨h1 _ (getD_mem core i 0 hi), fun h => ?_⟩
  rw [List.pairwise_iff_getElem] at h2
  have h3 := h2 (i - 1) i (by omega) hi (by omega)
  have e1 : core.getD (i - 1) 0 = core[i - 1] := by simp [List.getD, show i - 1 < core.length by omega]
  have e2 : core.getD i 0 = core[i] := by simp [List.getD, hi]
  rw [e1, e2]
  exact h3
end Sp
end Go.Um
