/- Plain laws: steps that learn and drop, as two checkers take them. No program in sight. No condition. -/
import Derived.Test.YtfjafkocejoigaaGreatTr3
namespace Go.Um
namespace Sp

abbrev Sk := Int × List Int
def fallsB (l : List (List Int)) (c : List Int) : Bool := decide (0 ≤ (on l (c.map fun x => -x) (List.replicate (c.map fun x => -x).length (-1))).2.2)
def sameI (l : List (List Int)) (c : List Int) : Int := idx (fun x => decide (litSort x = litSort c)) l
def rem (l : List (List Int)) (k : Int) : List (List Int) := l.take k.toNat ++ l.drop (k.toNat + 1)
def jOk (l : List (List Int)) (s : Sk) : Bool := if s.1 = 1 then fallsB l s.2 else decide (0 ≤ sameI l s.2)
def jCl (l : List (List Int)) (s : Sk) : List (List Int) := if s.1 = 1 then l ++ [s.2] else rem l (sameI l s.2)
def jEnd (l : List (List Int)) (s : Sk) : List (List Int) := if jOk l s = true then jCl l s else l
def jVer (l : List (List Int)) (s : Sk) : Nat := if jOk l s = true then 1 else 0
def whyGo : List (List Int) → Int → List Sk → Int
  | l, i, [] => if [] ∈ l then -1 else i
  | l, i, s :: r => if jOk l s = true then whyGo (jCl l s) (i + 1) r else i
section
variable {l : List (List Int)} {c : List Int}
theorem jOk_1 : jOk l (1, c) = fallsB l c := if_pos rfl
theorem jOk_2 : jOk l (2, c) = decide (0 ≤ sameI l c) := if_neg (by show ¬ (2 : Int) = 1; decide)
theorem jCl_1 : jCl l (1, c) = l ++ [c] := if_pos rfl
theorem jCl_2 : jCl l (2, c) = rem l (sameI l c) := if_neg (by show ¬ (2 : Int) = 1; decide)
theorem jEnd_yes {s : Sk} (h : jOk l s = true) : jEnd l s = jCl l s := if_pos h
theorem jEnd_no {s : Sk} (h : jOk l s = false) : jEnd l s = l := if_neg (by rw [h]; decide)
theorem jVer_yes {s : Sk} (h : jOk l s = true) : jVer l s = 1 := if_pos h
theorem jVer_no {s : Sk} (h : jOk l s = false) : jVer l s = 0 := if_neg (by rw [h]; decide)
theorem sameI_rng (h : 0 ≤ sameI l c) : (sameI l c).toNat < l.length := (idx_mem (p := fun x => decide (litSort x = litSort c)) (l := l) [] (by unfold sameI at h; omega)).1
theorem rem_len (k : Int) (h : k.toNat < l.length) : (rem l k).length + 1 = l.length := by
  unfold rem
  rw [List.length_append, List.length_take, List.length_drop]
  omega
theorem rem_mem {k : Int} {x : List Int} (h : x ∈ rem l k) : x ∈ l := (List.mem_append.1 h).elim List.mem_of_mem_take List.mem_of_mem_drop
end
structure Sts (n : Nat) (ls : List (List Int)) (st : List Sk) : Prop where
  ck : (check n ls).1 = 0
  ll : st.length ≤ 2900
  ok : ∀ s ∈ st, (s.1 = 1 ∨ s.1 = 2) ∧ (wrong n s.2).1 = 0 ∧ s.2.length ≤ 24
structure Wy (n m : Nat) (l : List (List Int)) : Prop where
  len : l.length ≤ m
  okc : ∀ c ∈ l, Okc n c
theorem Wy.step {n m : Nat} {l : List (List Int)} (h : Wy n m l) {s : Sk} (hs : (wrong n s.2).1 = 0) (hk : jOk l s = true) : Wy n (m + 1) (jCl l s) := by
  unfold jCl
  by_cases e : s.1 = 1
  · rw [if_pos e]
    refine ⟨by rw [List.length_append, List.length_singleton]; exact Nat.succ_le_succ h.len, fun c hc => ?_⟩
    rcases List.mem_append.1 hc with hc | hc
    · exact h.okc c hc
    · rw [List.mem_singleton.1 hc]; exact wrong_iff.1 hs
  · rw [if_neg e]
    rw [jOk, if_neg e, decide_eq_true_eq] at hk
    have := rem_len _ (sameI_rng hk)
    have := h.len
    exact ⟨by omega, fun c hc => h.okc c (rem_mem hc)⟩
theorem Wy.room {n m : Nat} {l : List (List Int)} (h : Wy n m l) (hn : n ≤ 24) (hm : m ≤ 4000) : (∀ c ∈ l, Cl c ∧ Fine c) ∧ l.flatten.length ≤ 100000 ∧ l.length ≤ 4000 := by
  have h1 := h.len
  have := flat_len (b := 24) l (fun c hc => by have := okc_len (h.okc c hc); omega)
  exact ⟨fun c hc => ⟨okc_nodup (h.okc c hc), (okc_fine (by omega) (h.okc c hc)).2⟩, by omega, by omega⟩
theorem drop_consK {l : List Sk} {i : Nat} (hi : i < l.length) : l.drop i = l.getD i (0, []) :: l.drop (i + 1) := by
  rw [List.drop_eq_getElem_cons hi, List.getD_eq_getElem?_getD, List.getElem?_eq_getElem hi]
  rfl
theorem why_step {l : List (List Int)} {st : List Sk} {i : Nat} (hi : i < st.length) (h : jOk l (st.getD i (0, [])) = true) : whyGo l i (st.drop i) = whyGo (jCl l (st.getD i (0, []))) ((i + 1 : Nat) : Int) (st.drop (i + 1)) := by
  rw [drop_consK hi, whyGo, if_pos h]
  rfl
theorem why_bad {l : List (List Int)} {st : List Sk} {i : Nat} (hi : i < st.length) (h : jOk l (st.getD i (0, [])) = false) : whyGo l i (st.drop i) = i := by
  rw [drop_consK hi, whyGo, if_neg (by rw [h]; decide)]
theorem why_yes {l : List (List Int)} {st : List Sk} {i : Nat} (hi : st.length ≤ i) (h : (l.any fun c => decide (c = [])) = true) : whyGo l i (st.drop i) = -1 := by
  rw [List.drop_of_length_le hi, whyGo, if_pos]
  obtain ⟨c, hc, e⟩ := List.any_eq_true.1 h
  rw [← of_decide_eq_true e]
  exact hc
theorem why_no {l : List (List Int)} {st : List Sk} {i : Nat} (hi : st.length ≤ i) (h : (l.any fun c => decide (c = [])) = false) : whyGo l i (st.drop i) = i := by
  rw [List.drop_of_length_le hi, whyGo, if_neg]
  intro hc
  exact List.any_eq_false.1 h [] hc (by decide)
def skOf (x : Int) : Sk := (if picked x 3 = 0 then 2 else 1, clOf 6 (q64 x 3))
def sksOf (l : List Int) (i : Nat) : List Sk := (l.take i).map skOf
theorem sks_len (l : List Int) (i : Nat) : (sksOf l i).length ≤ i := by
  unfold sksOf
  rw [List.length_map]
  exact List.length_take_le _ _
theorem sks_snoc {l : List Int} {i : Nat} (h : i < l.length) : sksOf l (i + 1) = sksOf l i ++ [skOf (l.getD i 0)] := by
  unfold sksOf
  rw [take_getD l i 0 h, List.map_append]
  rfl
theorem sks_ok {ls : List (List Int)} {l : List Int} {i : Nat} (hc : (check ((6 : Nat) : Int) ls).1 = 0) (hi : i ≤ 14) : Sts 6 ls (sksOf l i) := by
  refine ⟨hc, by have := sks_len l i; omega, fun s hs => ?_⟩
  obtain ⟨x, _, rfl⟩ := List.mem_map.1 hs
  refine ⟨?_, wrong_iff.2 (clOf_okc (m := 6) (by decide) _), ?_⟩
  · unfold skOf
    by_cases h : picked x 3 = 0
    · rw [if_pos h]; exact .inr rfl
    · rw [if_neg h]; exact .inl rfl
  · have := clOf_len 6 (q64 x 3)
    show (clOf 6 (q64 x 3)).length ≤ 24
    omega
end Sp
end Go.Um
