/- Plain laws: steps that are taken. No program in sight. No condition. -/
import Derived.Test.YtpjenbbalengoaaSq7
import Derived.Test.YtpjenbbalengoaaStp
namespace Go.Um
namespace Sp

theorem lrn_at {st : List (List Int)} {i : Nat} (h : i < st.length) : (lrn st).getD i (0, []) = (1, st.getD i []) := by simp [lrn, List.getD, h]
theorem lrn_len (st : List (List Int)) : (lrn st).length = st.length := List.length_map _
/-- Steps that a checker takes. -/
structure Taken (n : Int) (ls st : List (List Int)) : Prop where
  ck : (check n ls).1 = 0
  ll : st.length ≤ 2900
  wr : ∀ c ∈ st, (wrong n c).1 = 0 ∧ c.length ≤ 24
  ch : Chain ls st
theorem Taken.nz {n : Int} {ls st : List (List Int)} (h : Taken n ls st) : Nz ls ∧ Nz st :=
  ⟨fun c hc x hx => (wrong_ok ((check_ok h.ck).2.2 c hc).2 x hx).1, fun c hc x hx => (wrong_ok (h.wr c hc).1 x hx).1⟩
theorem outN_taken {m : Nat} {ls : List (List Int)} {asked : List Int} {A : Ans} {fuel : Int} (hck : (check m ls).1 = 0) (hm : m ≤ 12) (h : OutN m ls asked A) (hu : A.2.2.2.2 ≤ fuel) (hf : fuel ≤ 2000) : Taken m ls A.2.2.1 where
  ck := hck
  ll := by
    obtain ⟨st, e, h1⟩ := h.la
    rw [e, List.length_append, List.length_singleton]
    omega
  wr := fun c hc => by
    obtain ⟨g1, g2⟩ := h.good c hc
    refine ⟨wrong_iff.2 ⟨fun x hx => ?_, ?_⟩, ?_⟩
    · have := g1 x hx
      omega
    · have h2 := g2.1
      rw [List.nodup_iff_pairwise_ne] at h2
      rw [List.pairwise_iff_getElem] at h2 ⊢
      intro i j hi hj hij e
      have h3 := h2 i j hi hj hij
      unfold av at e
      have h4 : c[j] = -c[i] := by omega
      exact (g2.2 _ (List.getElem_mem hi)).2 (h4 ▸ List.getElem_mem hj)
    · have := nodup_good g2.1 g1
      omega
  ch := h.ch
end Sp
end Go.Um
