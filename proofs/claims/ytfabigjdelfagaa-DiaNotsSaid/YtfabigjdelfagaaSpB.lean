/- Plain law: of a table there is one diagram; it is as it must be, and tells the table. No program in sight. No condition. -/
import Derived.Test.YtfabigjdelfagaaSpA
namespace Go.Um
namespace Sp

theorem cho_mk {n : Int} {l : List Cho} {i : Nat} {c : Cho} (hc : l.getD i (0, 0, 0) = c) (h1 : 1 ≤ c.1 ∧ c.1 ≤ n) (h2 : 0 ≤ c.2.1 ∧ c.2.1 < (i : Int) + 2) (h3 : 0 ≤ c.2.2 ∧ c.2.2 < (i : Int) + 2) (h4 : c.2.1 ≠ c.2.2)
    (h5 : c.1 < lev l (n + 1) c.2.1) (h6 : c.1 < lev l (n + 1) c.2.2) (h7 : c ∉ l.take i) : choWrong n l i = 0 := by
  unfold choWrong
  rw [hc, if_neg (by omega), if_neg (by omega), if_neg h7]
theorem getD_app {l : List Cho} (X : List Cho) {i : Nat} (h : i < l.length) : (l ++ X).getD i (0, 0, 0) = l.getD i (0, 0, 0) := by
  rw [List.getD_eq_getElem?_getD, List.getD_eq_getElem?_getD, List.getElem?_append_left h]
theorem getD_new (l X : List Cho) (c : Cho) : (l ++ (c :: X)).getD l.length (0, 0, 0) = c := by
  rw [List.getD_eq_getElem?_getD, List.getElem?_append_right (Nat.le_refl _)]; simp
theorem lev_app {l : List Cho} (X : List Cho) (top i : Int) (h : i < l.length + 2) : lev (l ++ X) top i = lev l top i := by
  unfold lev
  split
  · rfl
  · rw [getD_app X (by omega)]
def GOK (n : Int) (l : List Cho) : Prop := ∀ j, j < l.length → choWrong n l j = 0
theorem cho_app {n : Int} {l : List Cho} (X : List Cho) {i : Nat} (hi : i < l.length) (h : choWrong n l i = 0) : choWrong n (l ++ X) i = 0 := by
  obtain ⟨h1, h2, h3, h4, h5, h6, h7⟩ := cho_ok h
  exact cho_mk (getD_app X hi) h1 h2 h3 h4 (by rw [lev_app X _ _ (by omega)]; exact h5) (by rw [lev_app X _ _ (by omega)]; exact h6) (by rw [List.take_append_of_le_length (by omega)]; exact h7)

abbrev T2 (m : Nat) (t : List Bool) : List Bool := (t.drop (2 ^ m)).take (t.length - 2 ^ m)

/-- What grows is in order; and the last number is the newest one, if there is a new one. -/
theorem grow_ok (n : Nat) : ∀ (m : Nat) (t : List Bool) (l : List Cho), m ≤ n → GOK n l →
    GOK n (grow m l t ((n : Int) - m + 1)).1 ∧ (0 ≤ (grow m l t ((n : Int) - m + 1)).2 ∧ (grow m l t ((n : Int) - m + 1)).2 < (grow m l t ((n : Int) - m + 1)).1.length + 2) ∧
    (n : Int) - m + 1 ≤ lev (grow m l t ((n : Int) - m + 1)).1 ((n : Int) + 1) (grow m l t ((n : Int) - m + 1)).2 ∧ ((grow m l t ((n : Int) - m + 1)).1 = l ∨ (grow m l t ((n : Int) - m + 1)).2 = (grow m l t ((n : Int) - m + 1)).1.length + 1)
  | 0, t, l, _, h => by
    have hb := b01_le (t.getD 0 false)
    refine ⟨h, ⟨hb.1, by show b01 (t.getD 0 false) < (l.length : Int) + 2; omega⟩, ?_, .inl rfl⟩
    show _ ≤ lev l ((n : Int) + 1) (b01 (t.getD 0 false))
    rw [lev, if_pos (by omega)]
    simp
  | m + 1, t, l, hm, h => by
    have hv : (n : Int) - ((m + 1 : Nat) : Int) + 1 + 1 = (n : Int) - m + 1 := by omega
    obtain ⟨⟨l1, a⟩, hA⟩ : ∃ A, grow m l (t.take (2 ^ m)) ((n : Int) - m + 1) = A := ⟨_, rfl⟩
    have gA := grow_ok n m (t.take (2 ^ m)) l (by omega) h
    rw [hA] at gA
    obtain ⟨⟨l2, b⟩, hB⟩ : ∃ B, grow m l1 (T2 m t) ((n : Int) - m + 1) = B := ⟨_, rfl⟩
    have gB := grow_ok n m (T2 m t) l1 (by omega) gA.1
    rw [hB] at gB
    obtain ⟨X, hX⟩ := grow_ext m l1 (T2 m t) ((n : Int) - m + 1)
    rw [hB] at hX
    simp only at gA gB hX
    obtain ⟨a1, a2, a3, a4⟩ := gA
    obtain ⟨b1, b2, b3, b4⟩ := gB
    rw [grow_step (A := (l1, a)) (B := (l2, b)) (by rw [hv]; exact hA) (by rw [hv]; exact hB)]
    simp only
    have la : lev l2 ((n : Int) + 1) a = lev l1 ((n : Int) + 1) a := by rw [hX]; exact lev_app X _ _ a2.2
    have hlen : l1.length ≤ l2.length := by rw [hX]; simp
    rcases growJ_cases l2 ((n : Int) - ((m + 1 : Nat) : Int) + 1) a b with ⟨e, e'⟩ | ⟨e, i, hi, e'⟩ | ⟨e, hn, e'⟩
    · rw [e']
      simp only
      refine ⟨b1, ⟨a2.1, by omega⟩, by omega, ?_⟩
      rcases b4 with h4 | h4
      · rcases a4 with h5 | h5
        · left; rw [h4, h5]
        · right; rw [h4]; exact h5
      · right; omega
    · rw [e']
      simp only
      obtain ⟨j, j1, j2, j3, j4⟩ := known_is hi
      have hc := cho_ok (b1 j j1)
      rw [j2] at hc
      simp only at hc
      refine ⟨b1, by omega, ?_, .inl ?_⟩
      · rw [j3, lev, if_neg (by omega), show ((j : Int) + 2 - 2).toNat = j by omega, j2]
        exact Int.le_refl _
      · have hb : l2 = l1 := by
          rcases b4 with h4 | h4
          · exact h4
          · omega
        have ha : l1 = l := by
          rcases a4 with h4 | h4
          · exact h4
          · have := congrArg List.length hb; omega
        rw [hb, ha]
    · rw [e']
      simp only
      have hll : (l2 ++ [((n : Int) - ((m + 1 : Nat) : Int) + 1, a, b)]).length = l2.length + 1 := by simp
      refine ⟨?_, ⟨by omega, by rw [hll]; omega⟩, ?_, .inr (by rw [hll]; omega)⟩
      · intro j hj
        rw [hll] at hj
        by_cases hj2 : j < l2.length
        · exact cho_app _ hj2 (b1 j hj2)
        · obtain rfl : j = l2.length := by omega
          refine cho_mk (getD_new l2 [] _) ⟨by simp only; omega, by simp only; omega⟩ ⟨a2.1, by simp only; omega⟩ ⟨b2.1, by simp only; omega⟩ e ?_ ?_ ?_
          · rw [lev_app _ _ _ (by simp only; omega)]; simp only; omega
          · rw [lev_app _ _ _ (by simp only; omega)]; simp only; omega
          · rw [List.take_append_of_le_length (Nat.le_refl _), List.take_length]; exact hn
      · rw [lev, if_neg (by omega), show ((l2.length : Int) + 2 - 2).toNat = l2.length by omega, getD_new l2 []]
        exact Int.le_refl _

theorem rvis_in {l : List Cho} {i : Int} {s : List Int} (h : i < 2 ∨ i ∈ s) : ∀ f, rvis l f i s = s
  | 0 => rfl
  | f + 1 => by rw [rvis, if_pos h]
theorem rvis_self {l : List Cho} {i : Int} {s : List Int} : ∀ f : Nat, i < (f : Int) → 0 ≤ i → i < 2 ∨ i ∈ rvis l f i s
  | 0, h, h' => by omega
  | f + 1, _, _ => by
    rw [rvis]
    split
    · assumption
    · right; simp

theorem grow_rvis (n : Nat) : ∀ (m : Nat) (t : List Bool) (l : List Cho), m ≤ n → GOK n l → ∀ (X : List Cho) (f : Nat), (grow m l t ((n : Int) - m + 1)).2 < (f : Int) →
    rvis ((grow m l t ((n : Int) - m + 1)).1 ++ X) f (grow m l t ((n : Int) - m + 1)).2 (rng ((l.length : Int) + 2)) = rng (((grow m l t ((n : Int) - m + 1)).1.length : Int) + 2)
  | 0, t, l, _, h, X, f, hf => by
    have hb := b01_le (t.getD 0 false)
    exact rvis_in (.inl (by show b01 (t.getD 0 false) < 2; omega)) f
  | m + 1, t, l, hm, h, X, f, hf => by
    have hv : (n : Int) - ((m + 1 : Nat) : Int) + 1 + 1 = (n : Int) - m + 1 := by omega
    obtain ⟨⟨l1, a⟩, hA⟩ : ∃ A, grow m l (t.take (2 ^ m)) ((n : Int) - m + 1) = A := ⟨_, rfl⟩
    have gA := grow_ok n m (t.take (2 ^ m)) l (by omega) h
    have rA := grow_rvis n m (t.take (2 ^ m)) l (by omega) h
    rw [hA] at gA rA
    obtain ⟨⟨l2, b⟩, hB⟩ : ∃ B, grow m l1 (T2 m t) ((n : Int) - m + 1) = B := ⟨_, rfl⟩
    have gB := grow_ok n m (T2 m t) l1 (by omega) gA.1
    have rB := grow_rvis n m (T2 m t) l1 (by omega) gA.1
    rw [hB] at gB rB
    obtain ⟨Y, hY⟩ := grow_ext m l1 (T2 m t) ((n : Int) - m + 1)
    rw [hB] at hY
    obtain ⟨Z, hZ⟩ := grow_ext m l (t.take (2 ^ m)) ((n : Int) - m + 1)
    rw [hA] at hZ
    simp only at gA gB hY hZ rA rB
    obtain ⟨a1, a2, a3, a4⟩ := gA
    obtain ⟨b1, b2, b3, b4⟩ := gB
    have hlen : l1.length ≤ l2.length := by rw [hY]; simp
    have hlen0 : l.length ≤ l1.length := by rw [hZ]; simp
    rw [grow_step (A := (l1, a)) (B := (l2, b)) (by rw [hv]; exact hA) (by rw [hv]; exact hB)] at hf ⊢
    simp only at hf ⊢
    rcases growJ_cases l2 ((n : Int) - ((m + 1 : Nat) : Int) + 1) a b with ⟨e, e'⟩ | ⟨e, i, hi, e'⟩ | ⟨e, hn, e'⟩
    · rw [e'] at hf ⊢
      simp only at hf ⊢
      have := rA (Y ++ X) f hf
      rw [← List.append_assoc, ← hY] at this
      rw [this]
      have hl : l2.length = l1.length := by
        rcases b4 with h4 | h4
        · rw [h4]
        · omega
      rw [hl]
    · rw [e'] at hf ⊢
      simp only at hf ⊢
      obtain ⟨j, j1, j2, j3, j4⟩ := known_is hi
      have hc := cho_ok (b1 j j1)
      rw [j2] at hc
      simp only at hc
      have hb : l2 = l1 := by
        rcases b4 with h4 | h4
        · exact h4
        · omega
      have ha : l1 = l := by
        rcases a4 with h4 | h4
        · exact h4
        · have := congrArg List.length hb; omega
      rw [rvis_in (.inr ((rng_mem _ _).2 (by rw [← ha, ← hb]; omega))) f, hb, ha]
    · rw [e'] at hf ⊢
      simp only at hf ⊢
      have hll : (l2 ++ [((n : Int) - ((m + 1 : Nat) : Int) + 1, a, b)]).length = l2.length + 1 := by simp
      match f, hf with
      | f + 1, hf =>
        have hget : (l2 ++ [((n : Int) - ((m + 1 : Nat) : Int) + 1, a, b)] ++ X).getD ((l2.length : Int) + 2 - 2).toNat (0, 0, 0) = ((n : Int) - ((m + 1 : Nat) : Int) + 1, a, b) := by
          rw [show ((l2.length : Int) + 2 - 2).toNat = l2.length by omega, List.append_assoc]; exact getD_new l2 X _
        rw [rvis, if_neg (by rw [rng_mem]; omega), hget]
        simp only
        have ra := rA (Y ++ ([((n : Int) - ((m + 1 : Nat) : Int) + 1, a, b)] ++ X)) f (by omega)
        have rb := rB ([((n : Int) - ((m + 1 : Nat) : Int) + 1, a, b)] ++ X) f (by omega)
        rw [← List.append_assoc, ← hY, ← List.append_assoc] at ra
        rw [← List.append_assoc] at rb
        rw [ra, rb, hll, ← rng_succ _ (by omega)]
        congr 1

/-! ### Tables -/
abbrev dvl (l : List Cho) (a : List Bool) (i : Int) : Bool := dval l a i.toNat i
def tb (l : List Cho) (m : Nat) (i : Int) (pad : List Bool) : List Bool := (List.range (2 ^ m)).map fun (w : Nat) => dvl l (pad ++ bits m w) i

theorem bits_succ (m : Nat) (w : Int) : bits (m + 1) w = decide (w / 2 ^ m % 2 = 1) :: bits m w := by
  simp only [bits, List.range_succ_eq_map, List.map_cons, List.map_map]
  congr 1
  apply List.map_congr_left
  intro i _
  simp only [Function.comp]
  rw [show m + 1 - 1 - (i + 1) = m - 1 - i by omega]
theorem bits_lo {m w : Nat} (h : w < 2 ^ m) : bits (m + 1) w = false :: bits m w := by
  rw [bits_succ]
  have e : (w : Int) / 2 ^ m = 0 := Int.ediv_eq_zero_of_lt (by omega) (by rw [pow_int]; omega)
  rw [e]
  rfl
theorem bits_hi {m w : Nat} (h : w < 2 ^ m) : bits (m + 1) ((2 ^ m + w : Nat) : Int) = true :: bits m w := by
  have hp : 0 < 2 ^ m := Nat.two_pow_pos m
  rw [bits_succ]
  have e : ((2 ^ m + w : Nat) : Int) / 2 ^ m = 1 := by
    rw [pow_int, ← Int.natCast_ediv, Nat.add_div_left _ hp, Nat.div_eq_of_lt h]; rfl
  rw [e]
  congr 1
  apply List.map_congr_left
  intro i hi
  rw [List.mem_range] at hi
  have e2 : ((2 ^ m + w : Nat) : Int) / 2 ^ (m - 1 - i) % 2 = (w : Int) / 2 ^ (m - 1 - i) % 2 := by
    have hq : 2 ^ m = 2 ^ (m - 1 - i) * (2 * 2 ^ i) := by rw [← Nat.mul_assoc, ← Nat.pow_succ, ← Nat.pow_add]; congr 1; omega
    rw [pow_int, ← Int.natCast_ediv, ← Int.natCast_ediv, hq, Nat.mul_add_div (Nat.two_pow_pos _)]
    omega
  rw [e2]
theorem tb_len (l : List Cho) (m : Nat) (i : Int) (pad : List Bool) : (tb l m i pad).length = 2 ^ m := by simp [tb]
theorem tb_split (l : List Cho) (m : Nat) (i : Int) (pad : List Bool) : tb l (m + 1) i pad = tb l m i (pad ++ [false]) ++ tb l m i (pad ++ [true]) := by
  have hp : 2 ^ (m + 1) = 2 ^ m + 2 ^ m := by rw [Nat.pow_succ]; omega
  unfold tb
  rw [hp, List.range_add, List.map_append, List.map_map]
  congr 1
  · apply List.map_congr_left
    intro w hw
    rw [List.mem_range] at hw
    rw [bits_lo hw]; simp
  · apply List.map_congr_left
    intro w hw
    rw [List.mem_range] at hw
    simp only [Function.comp]
    rw [bits_hi hw]; simp
theorem tb_take (l : List Cho) (m : Nat) (i : Int) (pad : List Bool) : (tb l (m + 1) i pad).take (2 ^ m) = tb l m i (pad ++ [false]) := by
  rw [tb_split]; exact List.take_left' (tb_len _ _ _ _)
theorem tb_drop (l : List Cho) (m : Nat) (i : Int) (pad : List Bool) : T2 m (tb l (m + 1) i pad) = tb l m i (pad ++ [true]) := by
  unfold T2
  rw [tb_len, tb_split, List.drop_left' (tb_len _ _ _ _)]
  apply List.take_of_length_le
  rw [tb_len, Nat.pow_succ]
  omega
theorem tb_node {l : List Cho} (hV : Valid l) {m : Nat} {i v a b : Int} {pad : List Bool} (h2 : 2 ≤ i) (h3 : i < l.length + 2) (hc : l.getD (i - 2).toNat (0, 0, 0) = (v, a, b)) (hp : (pad.length : Int) = v - 1) (x : Bool) :
    tb l m i (pad ++ [x]) = tb l m (if x = true then b else a) (pad ++ [x]) := by
  apply List.map_congr_left
  intro w _
  have hg : (pad ++ [x] ++ bits m (w : Int)).getD (v - 1).toNat false = x := by
    rw [show (v - 1).toNat = pad.length by omega, List.append_assoc, List.getD_eq_getElem?_getD, List.getElem?_append_right (Nat.le_refl _)]; simp
  refine dval_step hV _ i _ h2 h3 ?_
  rw [hc]
  simp only
  rw [hg]
theorem tb_leaf {l : List Cho} {i : Int} {pad : List Bool} (h0 : 0 ≤ i) (h : i < 2) : tb l 0 i pad = [decide (i = 1)] := by
  simp [tb, dval_end _ i h0 h]

/-- What grew tells the table. -/
theorem grow_tb (n : Nat) : ∀ (m : Nat) (t : List Bool) (l : List Cho), t.length = 2 ^ m → m ≤ n → GOK n l → ∀ (X : List Cho) (pad : List Bool), GOK n ((grow m l t ((n : Int) - m + 1)).1 ++ X) → pad.length + m = n →
    tb ((grow m l t ((n : Int) - m + 1)).1 ++ X) m (grow m l t ((n : Int) - m + 1)).2 pad = t
  | 0, t, l, ht, _, h, X, pad, _, _ => by
    have hb := b01_le (t.getD 0 false)
    show tb (l ++ X) 0 (b01 (t.getD 0 false)) pad = t
    rw [tb_leaf hb.1 (by omega)]
    match t, ht with
    | [b], _ => cases b <;> rfl
  | m + 1, t, l, ht, hm, h, X, pad, hG, hpad => by
    have hv : (n : Int) - ((m + 1 : Nat) : Int) + 1 + 1 = (n : Int) - m + 1 := by omega
    have hp : 2 ^ (m + 1) = 2 ^ m + 2 ^ m := by rw [Nat.pow_succ]; omega
    have et : t = t.take (2 ^ m) ++ T2 m t := by
      have e9 : (t.drop (2 ^ m)).take (t.length - 2 ^ m) = t.drop (2 ^ m) := List.take_of_length_le (by rw [List.length_drop]; omega)
      show t = t.take (2 ^ m) ++ (t.drop (2 ^ m)).take (t.length - 2 ^ m)
      rw [e9, List.take_append_drop]
    obtain ⟨⟨l1, a⟩, hA⟩ : ∃ A, grow m l (t.take (2 ^ m)) ((n : Int) - m + 1) = A := ⟨_, rfl⟩
    have gA := grow_ok n m (t.take (2 ^ m)) l (by omega) h
    have rA := grow_tb n m (t.take (2 ^ m)) l (by rw [List.length_take]; omega) (by omega) h
    rw [hA] at gA rA
    obtain ⟨⟨l2, b⟩, hB⟩ : ∃ B, grow m l1 (T2 m t) ((n : Int) - m + 1) = B := ⟨_, rfl⟩
    have gB := grow_ok n m (T2 m t) l1 (by omega) gA.1
    have rB := grow_tb n m (T2 m t) l1 (by unfold T2; rw [List.length_take, List.length_drop]; omega) (by omega) gA.1
    rw [hB] at gB rB
    obtain ⟨Y, hY⟩ := grow_ext m l1 (T2 m t) ((n : Int) - m + 1)
    rw [hB] at hY
    simp only at gA gB hY rA rB
    have hlen : l1.length ≤ l2.length := by rw [hY]; simp
    rw [grow_step (A := (l1, a)) (B := (l2, b)) (by rw [hv]; exact hA) (by rw [hv]; exact hB)] at hG ⊢
    simp only at hG ⊢
    have node : ∀ (X' : List Cho) (i : Int), GOK n (l2 ++ X') → 2 ≤ i → i < (l2 ++ X').length + 2 → (l2 ++ X').getD (i - 2).toNat (0, 0, 0) = ((n : Int) - ((m + 1 : Nat) : Int) + 1, a, b) → tb (l2 ++ X') (m + 1) i pad = t := by
      intro X' i hG' h2 h3 hc
      rw [tb_split, tb_node (valid_of hG') h2 h3 hc (by omega), tb_node (valid_of hG') h2 h3 hc (by omega)]
      simp only [Bool.false_eq_true, if_false, if_true]
      have ra := rA (Y ++ X') (pad ++ [false]) (by rw [← List.append_assoc, ← hY]; exact hG') (by simp; omega)
      rw [← List.append_assoc, ← hY] at ra
      rw [ra, rB X' (pad ++ [true]) hG' (by simp; omega), ← et]
    rcases growJ_cases l2 ((n : Int) - ((m + 1 : Nat) : Int) + 1) a b with ⟨e, e'⟩ | ⟨e, i, hi, e'⟩ | ⟨e, hn, e'⟩
    · rw [e'] at hG ⊢
      simp only at hG ⊢
      have ra := rA (Y ++ X) (pad ++ [false]) (by rw [← List.append_assoc, ← hY]; exact hG) (by simp; omega)
      rw [← List.append_assoc, ← hY] at ra
      have rb := rB X (pad ++ [true]) hG (by simp; omega)
      rw [tb_split, ra, e, rb, ← et]
    · rw [e'] at hG ⊢
      simp only at hG ⊢
      obtain ⟨j, j1, j2, j3, j4⟩ := known_is hi
      refine node X i hG (by omega) (by rw [List.length_append]; omega) ?_
      rw [j3, show ((j : Int) + 2 - 2).toNat = j by omega, getD_app X j1, j2]
    · rw [e'] at hG ⊢
      simp only at hG ⊢
      rw [List.append_assoc] at hG ⊢
      refine node _ _ hG (by omega) (by simp; omega) ?_
      rw [show ((l2.length : Int) + 2 - 2).toNat = l2.length by omega]
      exact getD_new l2 X _

theorem rng_inj {a b : Nat} (h : rng ((a : Int) + 2) = rng ((b : Int) + 2)) : a = b := by
  have := congrArg List.length h
  rw [rng_len, rng_len] at this
  omega
theorem rvis_pre {l : List Cho} : ∀ (f : Nat) (i : Int) (s : List Int), ∃ Y, rvis l f i s = s ++ Y
  | 0, _, s => ⟨[], by simp [rvis]⟩
  | f + 1, i, s => by
    rw [rvis]
    split
    · exact ⟨[], by simp⟩
    · obtain ⟨Y, hY⟩ := rvis_pre (l := l) f (l.getD (i - 2).toNat (0, 0, 0)).2.1 s
      obtain ⟨Z, hZ⟩ := rvis_pre (l := l) f (l.getD (i - 2).toNat (0, 0, 0)).2.2 (rvis l f (l.getD (i - 2).toNat (0, 0, 0)).2.1 s)
      exact ⟨Y ++ (Z ++ [i]), by rw [hZ, hY]; simp⟩
theorem rng_pre {s Y : List Int} {k : Nat} (h : s ++ Y = rng ((k : Int) + 2)) : s = rng ((s.length : Int) + 2) ∧ s.length ≤ k := by
  have hl : s.length ≤ k := by have := congrArg List.length h; rw [List.length_append, rng_len] at this; omega
  refine ⟨?_, hl⟩
  apply eq_of_getD (z := (0 : Int)) (i := s.length) (by rw [rng_len]; omega) (Nat.le_refl _)
  intro j hj
  have h1 : (s ++ Y).getD j 0 = s.getD j 0 := by rw [List.getD_eq_getElem?_getD, List.getD_eq_getElem?_getD, List.getElem?_append_left hj]
  rw [← h1, h, rng_get _ _ (by omega), rng_get _ _ (by omega)]

/-- A diagram that is as it must be is what grows out of its table. -/
theorem canon_at (n : Nat) {l : List Cho} (hG : GOK n l) : ∀ (m : Nat) (i : Int) (pad : List Bool) (k k' f : Nat), pad.length + m = n → (0 ≤ i ∧ i < l.length + 2) → (n : Int) - m + 1 ≤ lev l ((n : Int) + 1) i → i < (f : Int) → k ≤ l.length → k' ≤ l.length →
    rvis l f i (rng ((k : Int) + 2)) = rng ((k' : Int) + 2) → grow m (l.take k) (tb l m i pad) ((n : Int) - m + 1) = (l.take k', i)
  | 0, i, pad, k, k', f, hp, hi, hl, hf, hk, hk', hr => by
    have h2 : i < 2 := by
      refine Classical.byContradiction fun h => ?_
      rw [lev, if_neg h] at hl
      have := cho_ok (hG (i - 2).toNat (by omega))
      omega
    rw [rvis_in (.inl h2)] at hr
    have := rng_inj hr
    subst this
    rw [tb_leaf hi.1 h2, grow]
    congr 1
    rcases (by omega : i = 0 ∨ i = 1) with e | e <;> subst e <;> rfl
  | m + 1, i, pad, k, k', f, hp, hi, hl, hf, hk, hk', hr => by
    have hv : (n : Int) - ((m + 1 : Nat) : Int) + 1 + 1 = (n : Int) - m + 1 := by omega
    have hpf : (pad ++ [false]).length + m = n := by simp; omega
    have hpt : (pad ++ [true]).length + m = n := by simp; omega
    by_cases hs : (n : Int) - m + 1 ≤ lev l ((n : Int) + 1) i
    · have h1 := canon_at n hG m i (pad ++ [false]) k k' f hpf hi hs hf hk hk' hr
      have hself := rvis_self (l := l) (s := rng ((k : Int) + 2)) f hf hi.1
      rw [hr] at hself
      have h2 := canon_at n hG m i (pad ++ [true]) k' k' f hpt hi hs hf hk' hk' (rvis_in hself f)
      rw [grow_step (A := (l.take k', i)) (B := (l.take k', i)) (by rw [hv, tb_take]; exact h1) (by rw [hv]; show grow m _ (T2 m _) _ = _; rw [tb_drop]; exact h2)]
      simp [growJ]
    · have h2 : 2 ≤ i := by
        refine Classical.byContradiction fun h => hs ?_
        rw [lev, if_pos (by omega)]
        omega
      have hV := valid_of hG
      obtain ⟨⟨v, a, b⟩, hc⟩ : ∃ c, l.getD (i - 2).toNat (0, 0, 0) = c := ⟨_, rfl⟩
      have ho := cho_ok (hG (i - 2).toNat (by omega))
      have hlv : lev l ((n : Int) + 1) i = v := by rw [lev, if_neg (by omega), hc]
      rw [hc] at ho
      simp only at ho
      obtain ⟨o1, o2, o3, o4, o5, o6, o7⟩ := ho
      have hvv : v = (n : Int) - ((m + 1 : Nat) : Int) + 1 := by omega
      have ta : (tb l (m + 1) i pad).take (2 ^ m) = tb l m a (pad ++ [false]) := by rw [tb_take, tb_node hV h2 hi.2 hc (by omega)]; simp
      have tb' : T2 m (tb l (m + 1) i pad) = tb l m b (pad ++ [true]) := by rw [tb_drop, tb_node hV h2 hi.2 hc (by omega)]; simp
      obtain ⟨f, rfl⟩ : ∃ q, f = q + 1 := ⟨f - 1, by omega⟩
      by_cases hin : i ∈ rng ((k : Int) + 2)
      · rw [rvis_in (.inr hin)] at hr
        have := rng_inj hr
        subst this
        rw [rng_mem] at hin
        have ia : rvis l (f + 1) a (rng ((k : Int) + 2)) = rng ((k : Int) + 2) := rvis_in (by rw [rng_mem]; omega) _
        have ib : rvis l (f + 1) b (rng ((k : Int) + 2)) = rng ((k : Int) + 2) := rvis_in (by rw [rng_mem]; omega) _
        have ga := canon_at n hG m a (pad ++ [false]) k k (f + 1) hpf (by omega) (by omega) (by omega) hk hk ia
        have gb := canon_at n hG m b (pad ++ [true]) k k (f + 1) hpt (by omega) (by omega) (by omega) hk hk ib
        rw [grow_step (A := (l.take k, a)) (B := (l.take k, b)) (by rw [hv, ta]; exact ga) (by rw [hv]; show grow m _ (T2 m _) _ = _; rw [tb']; exact gb)]
        simp only
        have hkn : getL (knownOf (l.take k)) (v, a, b) = Option.some (((i - 2).toNat : Int) + 2) := known_at (by rw [List.length_take]; omega) (by rw [getD_take _ _ _ _ (by omega)]; exact hc) (fun y hy e => o7 (by
          rw [← e]
          rw [List.take_take, Nat.min_eq_left (by omega)] at hy
          exact hy))
        rw [growJ, if_neg o4, ← hvv, hkn]
        simp
        omega
      · rw [rvis, if_neg (by intro h; rcases h with h | h; omega; exact hin h), hc] at hr
        try simp only at hr
        obtain ⟨Y, hY⟩ := rvis_pre (l := l) f a (rng ((k : Int) + 2))
        obtain ⟨Z, hZ⟩ := rvis_pre (l := l) f b (rvis l f a (rng ((k : Int) + 2)))
        have p1 := rng_pre hr
        have hlast : i = (k' : Int) + 1 ∧ (rvis l f b (rvis l f a (rng ((k : Int) + 2)))).length + 1 = k' := by
          have hlen := congrArg List.length hr
          rw [List.length_append, rng_len] at hlen
          simp at hlen
          have hg := congrArg (fun q => q.getD (rvis l f b (rvis l f a (rng ((k : Int) + 2)))).length 0) hr
          try simp only at hg
          rw [rng_get _ _ (by omega), List.getD_eq_getElem?_getD, List.getElem?_append_right (Nat.le_refl _)] at hg
          simp at hg
          omega
        obtain ⟨e1, e2⟩ := hlast
        have pb : rvis l f b (rvis l f a (rng ((k : Int) + 2))) = rng (((k' - 1 : Nat) : Int) + 2) := by rw [p1.1]; congr 1; omega
        have p2 := rng_pre (hZ.symm.trans pb)
        have hka := p2.2
        have ga := canon_at n hG m a (pad ++ [false]) k _ f hpf (by omega) (by omega) (by omega) hk (by omega) p2.1
        rw [p2.1] at pb
        have gb := canon_at n hG m b (pad ++ [true]) _ (k' - 1) f hpt (by omega) (by omega) (by omega) (by omega) (by omega) pb
        rw [grow_step (A := (_, a)) (B := (l.take (k' - 1), b)) (by rw [hv, ta]; exact ga) (by rw [hv]; show grow m _ (T2 m _) _ = _; rw [tb']; exact gb)]
        simp only
        have hik : (i - 2).toNat = k' - 1 := by omega
        rw [hik] at o7 hc
        rw [growJ, if_neg o4, ← hvv, (known_not _ _).2 o7, if_neg (by decide)]
        have hll : (l.take (k' - 1)).length = k' - 1 := by rw [List.length_take]; omega
        refine Prod.ext ?_ ?_
        · show l.take (k' - 1) ++ [(v, a, b)] = l.take k'
          rw [← hc, ← take_getD l (k' - 1) (0, 0, 0) (by omega), show k' - 1 + 1 = k' by omega]
        · show ((l.take (k' - 1)).length : Int) + 2 = i
          rw [hll]; omega

theorem tab_tb (n : Nat) (l : List Cho) (r : Int) : tabOf n l r = tb l n r [] := by
  simp only [tabOf, dtab, tb, Int.toNat_natCast, dvalue, List.nil_append]

/-- BRYANT: a diagram is the one of its table. -/
theorem canon {n : Nat} {l : List Cho} {r : Int} (h : (diaCheck n l r).1 = 0) : grow n [] (tabOf n l r) 1 = (l, r) := by
  obtain ⟨hn, hl, hG, hr, hf⟩ := dia_ok h
  have hV := valid_of hG
  have ho := (fin_iff hV hr).1 hf
  have hin := rvis_inn hV (r.toNat + 1) r [] hr.2 ⟨List.nodup_nil, by simp⟩
  have hlen := inn_len hin
  have e : rvis l (r.toNat + 1) r (rng ((0 : Nat) + 2)) = rng ((l.length : Int) + 2) := by
    show rvis l (r.toNat + 1) r [] = _
    have hge : l.length ≤ (rvis l (r.toNat + 1) r []).length := by
      cases hc : l.length with
      | zero => omega
      | succ q => have := (ho q (by omega)).1; omega
    refine eq_of_getD (z := (0 : Int)) (i := l.length) (by rw [rng_len]; omega) (by omega) (fun j hj => ?_)
    rw [(ho j hj).2, rng_get _ _ (by omega)]
  have hlev : (n : Int) - n + 1 ≤ lev l ((n : Int) + 1) r := by
    rw [lev]
    split
    · omega
    · have := cho_ok (hG (r - 2).toNat (by omega)); omega
  have hc := canon_at n hG n r [] 0 l.length (r.toNat + 1) (by simp) hr hlev (by omega) (Nat.zero_le _) (Nat.le_refl _) e
  rw [show (n : Int) - n + 1 = 1 by omega, List.take_zero, List.take_length] at hc
  rw [tab_tb]
  exact hc

/-- What is built is as it must be. -/
theorem built_ok {n : Nat} (t : List Bool) (h8 : n ≤ 8) : diaCheck n (grow n [] t 1).1 (grow n [] t 1).2 = (0, 0) := by
  have e1 : (n : Int) - n + 1 = 1 := by omega
  have hg := grow_ok n n t [] (Nat.le_refl _) (fun j hj => absurd hj (Nat.not_lt_zero _))
  have hr := grow_rvis n n t [] (Nat.le_refl _) (fun j hj => absurd hj (Nat.not_lt_zero _)) [] ((grow n [] t 1).2.toNat + 1)
  have hlen := grow_len n [] t 1
  have h2 : 2 ^ n ≤ 256 := Nat.pow_le_pow_right (n := 2) (by decide) h8
  rw [e1] at hg hr
  rw [List.append_nil] at hr
  simp at hlen
  generalize grow n [] t 1 = G at hg hr hlen
  obtain ⟨g1, g2, _, _⟩ := hg
  have hr := hr (by omega)
  have e0 : rng ((([] : List Cho).length : Int) + 2) = [] := rfl
  rw [e0] at hr
  have hf : fin G.1 G.2 = true := (fin_iff (valid_of g1) g2).2 (by
    rw [hr]
    intro j hj
    exact ⟨by rw [rng_len]; omega, rng_get _ _ (by omega)⟩)
  have hp : ∀ d i : Nat, i + d = G.1.length → diaFrom n G.1 i = (0, 0) := by
    intro d
    induction d with
    | zero => intro i hi; rw [diaFrom, dif_neg (by omega)]
    | succ d ih => intro i hi; rw [diaFrom, dif_pos (by omega), if_neg (fun h => h (g1 i (by omega)))]; exact ih (i + 1) (by omega)
  have h0 := hp G.1.length 0 (by omega)
  rw [dia_end (by omega) (by omega) (Nat.le_refl _) (by rw [h0, hp 0 G.1.length (by omega)]), if_neg (by omega), if_pos hf]

/-- What is built tells the table. -/
theorem built_tab {n : Nat} {t : List Bool} (ht : t.length = 2 ^ n) : tabOf n (grow n [] t 1).1 (grow n [] t 1).2 = t := by
  have e1 : (n : Int) - n + 1 = 1 := by omega
  have hg := grow_ok n n t [] (Nat.le_refl _) (fun j hj => absurd hj (Nat.not_lt_zero _))
  have h := grow_tb n n t [] ht (Nat.le_refl _) (fun j hj => absurd hj (Nat.not_lt_zero _)) [] [] (by rw [List.append_nil]; exact hg.1) (by simp)
  rw [e1, List.append_nil] at h
  rw [tab_tb]
  exact h
theorem tab_len (n : Nat) (l : List Cho) (r : Int) : (tabOf n l r).length = 2 ^ n := by rw [tab_tb, tb_len]
end Sp
end Go.Um
