/- Plain laws: steps that are taken. No program in sight. No condition. -/
import Derived.Test.YtfjafkocejoigaaGreatSq7
import Derived.Test.YtfjafkocejoigaaGreatStp
namespace Go.Um
namespace Sp

theorem lrn_at {st : List (List Int)} {i : Nat} (h : i < st.length) : (lrn st).getD i (0, []) = (1, st.getD i []) := by simp [lrn, List.getD, h]
theorem lrn_len (st : List (List Int)) : (lrn st).length = st.length := List.length_map _
theorem chain_falls {ls st : List (List Int)} (hz : Nz ls) (hs : Nz st) (h : Chain ls st) {i : Nat} (hi : i < st.length) (w : List Int) : 0 ≤ (on (ls ++ st.take i) ((st.getD i []).map fun x => -x) w).2.2 :=
  rup_falls (fun c hc x hx => (List.mem_append.1 hc).elim (fun h => hz c h x hx) (fun h => hs c (List.mem_of_mem_take h) x hx)) (h i hi)
structure Taken (n : Int) (ls st : List (List Int)) : Prop where
  ck : (check n ls).1 = 0
  ll : st.length ≤ 2900
  wr : ∀ c ∈ st, (wrong n c).1 = 0 ∧ c.length ≤ 24
  ch : Chain ls st
theorem Taken.nz {n : Int} {ls st : List (List Int)} (h : Taken n ls st) : Nz ls ∧ Nz st :=
  ⟨fun c hc x hx => (wrong_ok ((check_ok h.ck).2.2 c hc).2 x hx).1, fun c hc x hx => (wrong_ok (h.wr c hc).1 x hx).1⟩
theorem Taken.room {n : Int} {ls st : List (List Int)} (h : Taken n ls st) (i : Nat) : (∀ c ∈ ls ++ st.take i, Cl c ∧ Fine c) ∧ (ls ++ st.take i).flatten.length ≤ 100000 ∧ (ls ++ st.take i).length ≤ 4000 := by
  obtain ⟨h1, h2, h3⟩ := check_ok h.ck
  have key : ∀ c ∈ ls ++ st.take i, (wrong n c).1 = 0 ∧ c.length ≤ 24 := fun c hc => (List.mem_append.1 hc).elim (fun h5 => ⟨(h3 c h5).2, (h3 c h5).1⟩) (fun h5 => h.wr c (List.mem_of_mem_take h5))
  have hl : (ls ++ st.take i).length ≤ 3300 := by
    have := h.ll
    have h5 : (st.take i).length ≤ st.length := List.length_take_le' _ _
    rw [List.length_append]
    omega
  refine ⟨fun c hc => ⟨cl_of (key c hc).1, fun x hx => ?_⟩, ?_, by omega⟩
  · have := wrong_ok (key c hc).1 x hx
    omega
  · have := flat_len (b := 24) (ls ++ st.take i) (fun c hc => (key c hc).2)
    omega
theorem OutN.empty {m : Nat} {ls : List (List Int)} {A : Ans} (h : OutN m ls [] A) : [] ∈ ls ++ A.2.2.1 := by
  obtain ⟨st, e, _⟩ := h.la
  rw [e, h.zero rfl]
  exact List.mem_append_right _ (List.mem_append_right _ (List.mem_singleton.2 rfl))
theorem outN_taken {m : Nat} {ls : List (List Int)} {asked : List Int} {A : Ans} {fuel : Int} (hck : (check m ls).1 = 0) (hm : m ≤ 12) (h : OutN m ls asked A) (hu : A.2.2.2.2 ≤ fuel) (hf : fuel ≤ 2000) : Taken m ls A.2.2.1 where
  ck := hck
  ll := by
    obtain ⟨st, e, h1⟩ := h.la
    rw [e, List.length_append, List.length_singleton]
    omega
  wr := fun c hc => by
    obtain ⟨g1, g2⟩ := h.good c hc
    refine ⟨wrong_iff.2 ⟨fun x hx => ?_, ?_⟩, ?_⟩
    · have := g1 x hx
      omega
    · have h2 := g2.1
      rw [List.nodup_iff_pairwise_ne] at h2
      rw [List.pairwise_iff_getElem] at h2 ⊢
      intro i j hi hj hij e
      have h3 := h2 i j hi hj hij
      unfold av at e
      have h4 : c[j] = -c[i] := by omega
      exact (g2.2 _ (List.getElem_mem hi)).2 (h4 ▸ List.getElem_mem hj)
    · have := nodup_good g2.1 g1
      omega
  ch := h.ch
end Sp
end Go.Um
