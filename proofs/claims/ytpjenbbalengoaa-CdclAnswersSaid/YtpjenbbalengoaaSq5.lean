/- Plain laws: with a core alone. No program in sight. No condition. -/
import Derived.Test.YtpjenbbalengoaaPB
namespace Go.Um
namespace Sp

theorem core_step {asked core : List Int} (h1 : ∀ x ∈ core, x ∈ asked) (h2 : core.Pairwise fun x y => x < y) {i : Nat} (hi : i < core.length) : core.getD i 0 ∈ asked ∧ (0 < i → core.getD (i - 1) 0 < core.getD i 0) := by
  refine ⟨h1 _ (getD_mem core i 0 hi), fun h => ?_⟩
  rw [List.pairwise_iff_getElem] at h2
  have h3 := h2 (i - 1) i (by omega) hi (by omega)
  have e1 : core.getD (i - 1) 0 = core[i - 1] := by simp [List.getD, show i - 1 < core.length by omega]
  have e2 : core.getD i 0 = core[i] := by simp [List.getD, hi]
  rw [e1, e2]
  exact h3
end Sp
end Go.Um
