/- Plain laws: a proof that the reference takes. No program in sight. No condition. -/
import Derived.Test.YtpjenbbalengoaaSq8
import Derived.Test.YtpjenbbalengoaaPA
namespace Go.Um
namespace Sp

theorem shut_sort {X : List (List Int)} {T : List Int} (h : Shut (X.map litSort) T) : Shut X T := by
  intro c hc
  obtain ⟨⟨x, hx, hx2⟩, h2⟩ := h (litSort c) (List.mem_map_of_mem hc)
  exact ⟨⟨x, litSort_mem.1 hx, hx2⟩, fun l hl hy => h2 l (litSort_mem.2 hl) fun y hy2 hne => hy y (litSort_mem.1 hy2) hne⟩
theorem rup_sort {X : List (List Int)} {c : List Int} (h : Rup X c) : Rup (X.map litSort) c := fun T hT => h T (shut_sort hT)
def srtTo (ls st : List (List Int)) (i : Nat) : List (List Int) := (ls ++ st.take i).map litSort
theorem srtTo_step {ls st : List (List Int)} {i : Nat} (h : i < st.length) : srtTo ls st (i + 1) = srtTo ls st i ++ [litSort (st.getD i [])] := by
  unfold srtTo
  rw [take_getD st i [] h, ← List.append_assoc, List.map_append]
  rfl
theorem Taken.sroom {n : Int} {ls st : List (List Int)} (h : Taken n ls st) (i : Nat) : (∀ c ∈ srtTo ls st i, Fine c ∧ c.length ≤ 24) ∧ (srtTo ls st i).flatten.length ≤ 100000 ∧ (srtTo ls st i).length ≤ 4000 := by
  obtain ⟨h1, h2, h3⟩ := check_ok h.ck
  have key : ∀ c ∈ srtTo ls st i, (wrong n c).1 = 0 ∧ c.length ≤ 24 ∧ Fine c := fun c hc => by
    obtain ⟨d, hd, rfl⟩ := List.mem_map.1 hc
    have h5 : (wrong n d).1 = 0 ∧ d.length ≤ 24 := (List.mem_append.1 hd).elim (fun h5 => ⟨(h3 d h5).2, (h3 d h5).1⟩) (fun h5 => h.wr d (List.mem_of_mem_take h5))
    refine ⟨?_, by rw [litSort_len]; exact h5.2, fun x hx => ?_⟩
    · refine wrong_iff.2 ⟨fun x hx => wrong_ok h5.1 x (litSort_mem.1 hx), ?_⟩
      exact ((litSort_perm d).pairwise_iff (fun h => fun e => h e.symm)).2 (wrong_iff.1 h5.1).2
    · have := wrong_ok h5.1 x (litSort_mem.1 hx)
      omega
  have hl : (srtTo ls st i).length ≤ 3300 := by
    have := h.ll
    have h5 : (st.take i).length ≤ st.length := List.length_take_le' _ _
    unfold srtTo
    rw [List.length_map, List.length_append]
    omega
  refine ⟨fun c hc => ⟨(key c hc).2.2, (key c hc).2.1⟩, ?_, by omega⟩
  have := flat_len (b := 24) (srtTo ls st i) (fun c hc => (key c hc).2.1)
  omega
theorem Taken.sfalls {n : Int} {ls st : List (List Int)} (h : Taken n ls st) {i : Nat} (hi : i < st.length) (w : List Int) : 0 ≤ (on (srtTo ls st i) ((st.getD i []).map fun x => -x) w).2.2 := by
  refine rup_falls (fun c hc x hx => ?_) (rup_sort (h.ch i hi))
  obtain ⟨d, hd, rfl⟩ := List.mem_map.1 hc
  have hx := litSort_mem.1 hx
  rcases List.mem_append.1 hd with h1 | h1
  · exact h.nz.1 d h1 x hx
  · exact h.nz.2 d (List.mem_of_mem_take h1) x hx
theorem sort_nil {X : List (List Int)} (h : [] ∈ X) : [] ∈ X.map litSort := by
  have := List.mem_map_of_mem (f := litSort) h
  rwa [show litSort [] = [] by rw [litSort, List.mergeSort_nil]] at this

/-- Clauses and core, closed by the empty clause. -/
theorem closed_taken {m : Nat} {ls : List (List Int)} {asked : List Int} {A : Ans} {fuel : Int} (hf : Fit m ls asked) (hck : (check m ls).1 = 0) (hm : m ≤ 12) (hl : ls.length ≤ 40) (h : OutN m ls asked A) (hu : A.2.2.2.2 ≤ fuel) (hfu : fuel ≤ 2000) :
    Taken m (ls ++ ones A.2.2.2.1) (A.2.2.1 ++ [[]]) := by
  have ht := outN_taken hck hm h hu hfu
  have hcl : A.2.2.2.1.length ≤ 2 * m := nodup_good (by
    rw [List.nodup_iff_pairwise_ne]
    exact h.up.imp fun h => by omega) (fun x hx => hf.ga x (h.sub x hx))
  refine ⟨?_, ?_, fun c hc => ?_, ?_⟩
  · have h1 := check_ok hck
    have := check_of (n := m) (ls := ls ++ ones A.2.2.2.1) h1.1 (by rw [List.length_append, ones, List.length_map]; omega) (fun l hl => (List.mem_append.1 hl).elim (fun h2 => h1.2.2 l h2) (fun h2 => by
      obtain ⟨x, hx, rfl⟩ := List.mem_map.1 h2
      have hx2 := hf.ga x (h.sub x hx)
      exact ⟨by simp, wrong_iff.2 ⟨fun y hy => by rw [List.mem_singleton.1 hy]; omega, by simp⟩⟩))
    rw [this]
  · obtain ⟨st, e, h1⟩ := h.la
    rw [List.length_append, e, List.length_append, List.length_singleton, List.length_singleton]
    omega
  · rcases List.mem_append.1 hc with h1 | h1
    · exact ht.wr c h1
    · rw [List.mem_singleton.1 h1]
      exact ⟨wrong_iff.2 ⟨fun y hy => (nomatch hy), List.Pairwise.nil⟩, by simp⟩
  · refine Chain.snoc (fun i hi => (h.ch i hi).mono (fun c hc => ?_)) ?_
    · rcases List.mem_append.1 hc with h1 | h1
      · exact List.mem_append_left _ (List.mem_append_left _ h1)
      · exact List.mem_append_right _ h1
    · intro T hT _
      obtain ⟨st, e, _⟩ := h.la
      obtain ⟨y, hy, hy2⟩ := (hT (negL A.2.2.2.1) (List.mem_append_right _ (by rw [e]; exact List.mem_append_right _ (List.mem_singleton.2 rfl)))).1
      obtain ⟨x, hx, rfl⟩ := List.mem_map.1 hy
      refine hy2 ?_
      rw [Int.neg_neg]
      exact (hT [x] (List.mem_append_left _ (List.mem_append_right _ (List.mem_map_of_mem hx)))).2 x (List.mem_singleton.2 rfl) (fun z hz hne => absurd (List.mem_singleton.1 hz) hne)
theorem OutN.last {n : Nat} {ls : List (List Int)} {asked : List Int} {A : Ans} (h : OutN n ls asked A) : 1 ≤ A.2.2.1.length ∧ (lrn A.2.2.1).getD (((lrn A.2.2.1).length : Int) - 1).toNat (0, []) = (1, negL A.2.2.2.1) := by
  obtain ⟨st, e, _⟩ := h.la
  have hl : (lrn A.2.2.1).length = A.2.2.1.length := List.length_map _
  have hl2 : A.2.2.1.length = st.length + 1 := by
    have := congrArg List.length e
    rwa [List.length_append, List.length_singleton] at this
  refine ⟨by omega, ?_⟩
  rw [hl, show ((A.2.2.1.length : Int) - 1).toNat = st.length by omega, lrn_at (by omega), e]
  simp [List.getD]
theorem OutN.few {n : Nat} {ls : List (List Int)} {asked : List Int} {A : Ans} {fuel : Int} (h : OutN n ls asked A) (hu : A.2.2.2.2 ≤ fuel) (hfu : fuel ≤ 2000) : A.2.2.1.length ≤ 2001 := by
  obtain ⟨st, e, h1⟩ := h.la
  rw [e, List.length_append, List.length_singleton]
  omega
theorem OutN.clen {m : Nat} {ls : List (List Int)} {asked : List Int} {A : Ans} (hf : Fit m ls asked) (h : OutN m ls asked A) : A.2.2.2.1.length ≤ 2 * m := nodup_good (by
  rw [List.nodup_iff_pairwise_ne]
  exact h.up.imp fun h => by omega) (fun x hx => hf.ga x (h.sub x hx))
theorem ones_take {l : List Int} {i : Nat} (h : i < l.length) : ones (l.take (i + 1)) = ones (l.take i) ++ [[l.getD i 0]] := by
  rw [ones_step h, slice_one h]
end Sp
end Go.Um
