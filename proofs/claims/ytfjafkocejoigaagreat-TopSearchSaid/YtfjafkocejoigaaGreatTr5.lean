/- Plain laws: what is required, step by step. No program in sight. No condition. -/
import Derived.Test.YtfjafkocejoigaaGreatTr2
import Derived.Test.YtfjafkocejoigaaGreatTr3
import Derived.Test.YtfjafkocejoigaaGreatBD
namespace Go.Um
namespace Sp

theorem czk_down {l : List (List Int)} {L W : List Int} {k : Nat} {q : Cq} (h : 0 < k) : czk l L W k q = czk l L W (k - 1) (czS l L W (k - 1) q) := by
  cases k with
  | zero => omega
  | succ k => rfl
theorem causes_go {l : List (List Int)} {i : Nat} (h : 0 ≤ (trOn (l.take i) (l.getD i [])).2.2) : causes l i = (czk l (trOn (l.take i) (l.getD i [])).1 (trOn (l.take i) (l.getD i [])).2.1 (trOn (l.take i) (l.getD i [])).1.length ([(trOn (l.take i) (l.getD i [])).2.2], (l.getD (trOn (l.take i) (l.getD i [])).2.2.toNat []).map av)).1 := if_neg (by omega)
structure Cz (n : Nat) (l : List (List Int)) (i : Nat) : Prop where
  bad : 0 ≤ (trOn (l.take i) (l.getD i [])).2.2 ∧ (trOn (l.take i) (l.getD i [])).2.2.toNat < i
  rd : Rd (l.take i) (l.getD i []) (trOn (l.take i) (l.getD i [])).1 (trOn (l.take i) (l.getD i [])).2.1
  len : (trOn (l.take i) (l.getD i [])).1.length ≤ 101000
  okc : Okc n (l.getD i [])
  tk : ∀ c ∈ l.take i, Okc n c
  cl : ∀ c ∈ l.take i, Cl c ∧ Fine c
  fl : (l.take i).flatten.length ≤ 100000
theorem cz_of {n : Nat} {l : List (List Int)} {i : Nat} (hi : i < l.length) (hl : ∀ c ∈ l, Okc n c) (hn : n ≤ 24) (hll : l.length ≤ 4000) (hr : Rup (l.take i) (l.getD i [])) : Cz n l i := by
  have hci := hl _ (getD_mem l i [] hi)
  have htk : ∀ c ∈ l.take i, Okc n c := fun c hc => hl c (List.mem_of_mem_take hc)
  have hz : Nz (l.take i) := fun d hd x hx => ((htk d hd).1 x hx).1
  have h1 : 0 ≤ (trOn (l.take i) (l.getD i [])).2.2 := rup_falls hz (w := List.replicate ((l.getD i []).map fun x => -x).length (-1)) hr
  have hrd : Rd (l.take i) (l.getD i []) (trOn (l.take i) (l.getD i [])).1 (trOn (l.take i) (l.getD i [])).2.1 := rd_on hz (okc_nodup hci)
  have hbad : (trOn (l.take i) (l.getD i [])).2.2 = conf (l.take i) (trOn (l.take i) (l.getD i [])).1 := by
    rcases onV_end (l.take i) ((l.getD i []).map fun x => -x) (List.replicate ((l.getD i []).map fun x => -x).length (-1)) with ⟨_, h3⟩ | ⟨_, _, h3⟩
    · exact h3
    · have h3 : (trOn (l.take i) (l.getD i [])).2.2 = -1 := h3
      omega
  obtain ⟨c1, _, _⟩ := conf_at hz (T := (trOn (l.take i) (l.getD i [])).1) (by omega)
  rw [← hbad, List.length_take] at c1
  have hfl : (l.take i).flatten.length ≤ 100000 := by
    have h2 := flat_len (b := 24) (l.take i) (fun c hc => by have := okc_len (htk c hc); omega)
    rw [List.length_take] at h2
    have : min i l.length * 24 ≤ 4000 * 24 := Nat.mul_le_mul_right _ (by omega)
    omega
  refine ⟨⟨h1, by omega⟩, hrd, ?_, hci, htk, fun c hc => ⟨okc_nodup (htk c hc), (okc_fine (by omega) (htk c hc)).2⟩, hfl⟩
  have h5 := on_room (l.take i) ((l.getD i []).map fun x => -x) (List.replicate ((l.getD i []).map fun x => -x).length (-1))
  have h6 := room_le (l.take i) ((l.getD i []).map fun x => -x)
  have h7 := okc_len hci
  have hm : ((l.getD i []).map fun x => -x).length = (l.getD i []).length := List.length_map _
  unfold trOn
  omega
theorem czk_len {l : List (List Int)} {L W : List Int} : ∀ (k : Nat) (q : Cq), (czk l L W k q).1.length ≤ q.1.length + k
  | 0, _ => Nat.le_refl _
  | k + 1, q => by
    rw [czk]
    have h := czk_len (l := l) (L := L) (W := W) k (czS l L W k q)
    have h2 : (czS l L W k q).1.length ≤ q.1.length + 1 := by
      unfold czS
      split
      · exact Nat.le_succ _
      · show (q.1 ++ [_]).length ≤ _
        rw [List.length_append]
        exact Nat.le_refl _
    omega
theorem causes_len {n : Nat} {l : List (List Int)} {i : Nat} (h : Cz n l i) : (causes l i).length ≤ 101001 := by
  rw [causes_go h.bad.1]
  have h1 := czk_len (l := l) (L := (trOn (l.take i) (l.getD i [])).1) (W := (trOn (l.take i) (l.getD i [])).2.1) (trOn (l.take i) (l.getD i [])).1.length ([(trOn (l.take i) (l.getD i [])).2.2], (l.getD (trOn (l.take i) (l.getD i [])).2.2.toNat []).map av)
  have h2 := h.len
  simp only [List.length_cons, List.length_nil] at h1
  omega
theorem vmap_app (vs : List Int) (c : List Int) (j : Nat) (h : j < c.length) : vput (vmap (vs ++ (c.take j).map av)) (av (c.getD j 0)) = vmap (vs ++ (c.take (j + 1)).map av) := by
  show putL (vmap _) _ true = _
  rw [vmap_put, take_getD c j 0 h, List.map_append, ← List.append_assoc]
  rfl
theorem setAll_step {ks : List Int} {f : List Bool} {p : Nat} (h : p < ks.length) : setAll (ks.take (p + 1)) f = (setAll (ks.take p) f).set (ks.getD p 0).toNat true := by
  unfold setAll
  rw [take_getD ks p 0 h, List.foldl_append]
  rfl
theorem rqk_down {l : List (List Int)} {m : Nat} {j : Int} {f : List Bool} (h : (m : Int) ≤ j) : rqk l m (j + 1 - m).toNat f = rqk l m (j - 1 + 1 - m).toNat (rqS l j.toNat f) := by
  have e : (j + 1 - m).toNat = (j - 1 + 1 - m).toNat + 1 := by omega
  rw [e, rqk, show m + (j - 1 + 1 - m).toNat = j.toNat by omega]
theorem rqS_yes {l : List (List Int)} {i : Nat} {f : List Bool} (h : f.getD i false = true) : rqS l i f = setAll (causes l i) f := if_pos h
theorem rqS_no {l : List (List Int)} {i : Nat} {f : List Bool} (h : f.getD i false = false) : rqS l i f = f := if_neg (by rw [h]; decide)
theorem flags_zero (g l : List (List Int)) : flags g l = rqk l g.length (firstE l + 1 - g.length).toNat ((List.replicate l.length false).set (firstE l).toNat true) ∨ firstE l < 0 := by
  by_cases h : firstE l < 0
  · exact .inr h
  · left
    unfold flags
    rw [show (firstE l + 1 - g.length).toNat = (firstE l).toNat + 1 - g.length by omega]
structure Tk (n : Nat) (g st : List (List Int)) : Prop where
  okc : ∀ c ∈ g ++ st, Okc n c
  ll : (g ++ st).length ≤ 3300
  rup : ∀ i, g.length ≤ i → i < (g ++ st).length → Rup ((g ++ st).take i) ((g ++ st).getD i [])
  fst : 0 ≤ firstE (g ++ st) ∧ (firstE (g ++ st)).toNat < (g ++ st).length
theorem tk_of {n : Nat} {g st : List (List Int)} (h : Taken n g st) (h0 : [] ∈ g ++ st) : Tk n g st := by
  have hokg := check_okc h.ck
  have hgl := (check_ok h.ck).2.1
  have hsl := h.ll
  refine ⟨fun c hc => (List.mem_append.1 hc).elim (hokg c) (fun hc => wrong_iff.1 (h.wr c hc).1), by rw [List.length_append]; omega, fun i h1 h2 => ?_, ?_⟩
  · rw [List.length_append] at h2
    have h3 := h.ch (i - g.length) (by omega)
    rw [List.take_append, List.take_of_length_le h1, List.getD_eq_getElem?_getD, List.getElem?_append_right h1, ← List.getD_eq_getElem?_getD]
    exact h3
  · have hf0 : 0 ≤ firstE (g ++ st) := by
      refine Classical.byContradiction fun hn => ?_
      have := idxV_neg (p := fun x : List Int => decide (x = [])) (l := g ++ st) (by unfold firstE at hn; omega) [] h0
      simp at this
    exact ⟨hf0, (idx_mem (p := fun x : List Int => decide (x = [])) (l := g ++ st) [] (by unfold firstE at hf0; omega)).1⟩
theorem lrn_snoc (l : List (List Int)) (c : List Int) : lrn (l ++ [c]) = lrn l ++ [(1, c)] := List.map_append
end Sp
end Go.Um
