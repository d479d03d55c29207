/- Plain facts: parities. No condition. -/
import Derived.Test.YtpjenbbalengoaaSp0
import Derived.Test.YtpjenbbalengoaaSp1
namespace Go.Um
namespace Sp

def Inc (n : Int) (zs : List Int) : Prop := (∀ z ∈ zs, 1 ≤ z ∧ z ≤ n) ∧ zs.Pairwise (fun x y => x < y)

theorem pwf_iff {n : Int} {zs : List Int} : ∀ (m k : Nat), zs.length - k = m → (parityWrongFrom n zs k = 0 ↔ ∀ j, k ≤ j → j < zs.length → (1 ≤ zs.getD j 0 ∧ zs.getD j 0 ≤ n) ∧ (0 < j → zs.getD (j - 1) 0 < zs.getD j 0)) := by
  intro m
  induction m with
  | zero =>
    intro k hk
    rw [parityWrongFrom, dif_neg (by omega)]
    exact ⟨fun _ j h1 h2 => by omega, fun _ => rfl⟩
  | succ m ih =>
    intro k hk
    rw [parityWrongFrom, dif_pos (by omega)]
    split
    · rename_i h
      refine ⟨(fun h0 => by cases h0), fun h0 => ?_⟩
      have := (h0 k (Nat.le_refl _) (by omega)).1
      omega
    · rename_i h
      split
      · rename_i h2
        refine ⟨(fun h0 => by cases h0), fun h0 => ?_⟩
        have := (h0 k (Nat.le_refl _) (by omega)).2 h2.1
        omega
      · rename_i h2
        rw [ih (k + 1) (by omega)]
        constructor
        · intro h0 j h1 h3
          by_cases e : j = k
          · subst e
            exact ⟨by omega, fun hp => by omega⟩
          · exact h0 j (by omega) h3
        · intro h0 j h1 h3
          exact h0 j (by omega) h3

theorem parity_ok {n : Int} {zs : List Int} : parityWrong n zs = 0 ↔ Inc n zs := by
  rw [parityWrong, pwf_iff _ 0 rfl]
  constructor
  · intro h
    have hg : ∀ i (hi : i < zs.length), zs.getD i 0 = zs[i] := fun i hi => by simp [List.getD, hi]
    refine ⟨fun z hz => ?_, ?_⟩
    · obtain ⟨i, hi, rfl⟩ := List.getElem_of_mem hz
      have := (h i (Nat.zero_le _) hi).1
      rw [hg i hi] at this
      exact this
    · rw [List.pairwise_iff_getElem]
      intro i j hi hj hij
      have key : ∀ d, ∀ j (hj : j < zs.length), j = i + 1 + d → zs[i] < zs[j] := by
        intro d
        induction d with
        | zero =>
          intro j hj e
          have := (h j (Nat.zero_le _) hj).2 (by omega)
          rw [hg j hj, show j - 1 = i by omega, hg i hi] at this
          exact this
        | succ d ih =>
          intro j hj e
          have h1 := ih (j - 1) (by omega) (by omega)
          have := (h j (Nat.zero_le _) hj).2 (by omega)
          rw [hg j hj, hg (j - 1) (by omega)] at this
          omega
      exact key (j - i - 1) j hj (by omega)
  · intro h j _ hj
    have hg : ∀ i (hi : i < zs.length), zs.getD i 0 = zs[i] := fun i hi => by simp [List.getD, hi]
    rw [hg j hj]
    refine ⟨h.1 _ (List.getElem_mem hj), fun hp => ?_⟩
    rw [hg (j - 1) (by omega)]
    exact List.pairwise_iff_getElem.1 h.2 (j - 1) j (by omega) hj (by omega)

theorem pcf_iff {n : Int} {l : List (List Int × Bool)} : ∀ (m k : Nat), l.length - k = m → ((∀ p ∈ l.drop k, Inc n p.1) → parCheckFrom n l k = (0, 0)) ∧ ((parCheckFrom n l k).1 = 0 → ∀ p ∈ l.drop k, Inc n p.1) := by
  intro m
  induction m with
  | zero =>
    intro k hk
    rw [parCheckFrom, dif_neg (by omega), List.drop_of_length_le (by omega)]
    simp
  | succ m ih =>
    intro k hk
    have hlt : k < l.length := by omega
    obtain ⟨i1, i2⟩ := ih (k + 1) (by omega)
    have hg : l.getD k ([], false) = l[k] := by simp [List.getD, hlt]
    rw [parCheckFrom, dif_pos hlt, hg, List.drop_eq_getElem_cons hlt]
    by_cases h : parityWrong n l[k].1 = 0
    · rw [if_neg (fun h2 => h2 h)]
      refine ⟨fun h2 => i1 (fun p hp => h2 p (List.mem_cons_of_mem _ hp)), fun h2 p hp => ?_⟩
      rcases List.mem_cons.1 hp with rfl | hp
      · exact parity_ok.1 h
      · exact i2 h2 p hp
    · rw [if_pos h]
      exact ⟨fun h2 => absurd (parity_ok.2 (h2 _ (List.mem_cons_self ..))) h, fun h2 => absurd h2 h⟩

theorem par_ok {n : Int} {l : List (List Int × Bool)} (h : (parCheck n l).1 = 0) : (0 ≤ n ∧ n ≤ 120) ∧ l.length ≤ 400 ∧ (∀ p ∈ l, Inc n p.1) ∧ parCheck n l = (0, 0) := by
  unfold parCheck at h ⊢
  split at h
  · cases h
  · split at h
    · cases h
    · rename_i h1 h2
      rw [if_neg h1, if_neg h2]
      obtain ⟨i1, i2⟩ := pcf_iff (n := n) (l := l) _ 0 rfl
      have := i2 h
      exact ⟨by omega, by omega, by simpa using this, i1 this⟩

theorem par_of {n : Int} {l : List (List Int × Bool)} (h1 : 0 ≤ n ∧ n ≤ 120) (h2 : l.length ≤ 400) (h3 : ∀ p ∈ l, Inc n p.1) : parCheck n l = (0, 0) := by
  rw [parCheck, if_neg (by omega), if_neg (by omega)]
  exact (pcf_iff _ 0 rfl).1 (by simpa using h3)

theorem inc_ext : ∀ {l m : List Int}, l.Pairwise (fun x y => x < y) → m.Pairwise (fun x y => x < y) → (∀ x, x ∈ l ↔ x ∈ m) → l = m
  | [], [], _, _, _ => rfl
  | [], y :: m, _, _, h => absurd ((h y).2 (List.mem_cons_self ..)) (by simp)
  | x :: l, [], _, _, h => absurd ((h x).1 (List.mem_cons_self ..)) (by simp)
  | x :: l, y :: m, hl, hm, h => by
    rw [List.pairwise_cons] at hl hm
    have e : x = y := by
      have h1 := (h x).1 (List.mem_cons_self ..)
      have h2 := (h y).2 (List.mem_cons_self ..)
      rcases List.mem_cons.1 h1 with h1 | h1
      · exact h1
      · rcases List.mem_cons.1 h2 with h2 | h2
        · exact h2.symm
        · have := hm.1 x h1; have := hl.1 y h2; omega
    subst e
    congr 1
    refine inc_ext hl.2 hm.2 (fun z => ⟨fun hz => ?_, fun hz => ?_⟩)
    · rcases List.mem_cons.1 ((h z).1 (List.mem_cons_of_mem _ hz)) with e | h1
      · have := hl.1 z hz; omega
      · exact h1
    · rcases List.mem_cons.1 ((h z).2 (List.mem_cons_of_mem _ hz)) with e | h1
      · have := hm.1 z hz; omega
      · exact h1

def srt (l : List Int) : List Int := l.mergeSort fun x y => decide (x ≤ y)

theorem srt_mem {l : List Int} {x : Int} : x ∈ srt l ↔ x ∈ l := (List.mergeSort_perm l _).mem_iff
theorem srt_len (l : List Int) : (srt l).length = l.length := List.length_mergeSort _
theorem srt_le (l : List Int) : (srt l).Pairwise (fun x y => x ≤ y) := by
  have := List.pairwise_mergeSort (le := fun x y : Int => decide (x ≤ y)) (fun a b c h1 h2 => by simp at *; omega) (fun a b => by simp; omega) l
  exact this.imp (fun h => by simpa using h)
theorem srt_inc {l : List Int} (h : l.Nodup) : (srt l).Pairwise (fun x y => x < y) := by
  have h1 : (srt l).Nodup := (List.mergeSort_perm l _).nodup_iff.2 h
  exact (srt_le l).imp₂ (fun x y h2 h3 => by omega) h1

theorem inc_nodup {l : List Int} (h : l.Pairwise (fun x y => x < y)) : l.Nodup := h.imp (fun h => by omega)

def side (a b : List Int) (i : Nat) : List Int := (a.take i).filter fun x => !decide (x ∈ b)
def psum (a b : List Int × Bool) : List Int × Bool := (srt (side a.1 b.1 a.1.length ++ side b.1 a.1 b.1.length), a.2 != b.2)

theorem side_yes {a b : List Int} {i : Nat} (hi : i < a.length) (h : decide (a.getD i 0 ∈ b) = false) : side a b (i + 1) = side a b i ++ [a.getD i 0] := by
  unfold side
  rw [take_getD a i 0 hi, List.filter_append]
  simp only [List.filter_cons, List.filter_nil, h, Bool.not_false, if_true]
theorem side_no {a b : List Int} {i : Nat} (hi : i < a.length) (h : decide (a.getD i 0 ∈ b) = true) : side a b (i + 1) = side a b i := by
  unfold side
  rw [take_getD a i 0 hi, List.filter_append]
  simp only [List.filter_cons, List.filter_nil, h, Bool.not_true, Bool.false_eq_true, if_false, List.append_nil]
theorem side_len (a b : List Int) (i : Nat) : (side a b i).length ≤ i := by
  have h1 := List.length_filter_le (fun x => !decide (x ∈ b)) (a.take i)
  have h2 : (a.take i).length ≤ i := by simp; omega
  exact Nat.le_trans h1 h2
theorem side_mem {a b : List Int} {x : Int} : x ∈ side a b a.length ↔ x ∈ a ∧ x ∉ b := by
  unfold side
  rw [List.take_of_length_le (Nat.le_refl _)]
  simp

theorem psum_mem {a b : List Int × Bool} {x : Int} : x ∈ (psum a b).1 ↔ (x ∈ a.1 ∧ x ∉ b.1) ∨ (x ∈ b.1 ∧ x ∉ a.1) := by
  simp only [psum, srt_mem, List.mem_append, side_mem]

theorem psum_inc {n : Int} {a b : List Int × Bool} (ha : Inc n a.1) (hb : Inc n b.1) : Inc n (psum a b).1 := by
  refine ⟨fun x hx => ?_, srt_inc ?_⟩
  · rcases psum_mem.1 hx with h | h
    · exact ha.1 x h.1
    · exact hb.1 x h.1
  · rw [List.nodup_append]
    refine ⟨((inc_nodup ha.2).sublist (List.take_sublist _ _)).filter _, ((inc_nodup hb.2).sublist (List.take_sublist _ _)).filter _, ?_⟩
    intro x hx y hy e
    subst e
    exact (side_mem.1 hy).2 (side_mem.1 hx).1

/-- The numbers from 1 on. -/
def oneTo (k : Nat) (p : Int → Bool) : List Int := ((List.range k).map fun (i : Nat) => (i : Int) + 1).filter p
theorem oneTo_yes {k : Nat} {p : Int → Bool} (h : p ((k : Int) + 1) = true) : oneTo (k + 1) p = oneTo k p ++ [(k : Int) + 1] := by
  unfold oneTo
  rw [List.range_succ, List.map_append, List.filter_append]
  simp [h]
theorem oneTo_no {k : Nat} {p : Int → Bool} (h : p ((k : Int) + 1) = false) : oneTo (k + 1) p = oneTo k p := by
  unfold oneTo
  rw [List.range_succ, List.map_append, List.filter_append]
  simp [h]
theorem oneTo_len (k : Nat) (p : Int → Bool) : (oneTo k p).length ≤ k := by
  have := List.length_filter_le p ((List.range k).map fun (i : Nat) => (i : Int) + 1)
  unfold oneTo
  simpa using this
theorem oneTo_inc (k : Nat) (p : Int → Bool) : (oneTo k p).Pairwise (fun x y => x < y) := by
  unfold oneTo
  refine List.Pairwise.filter _ ?_
  rw [List.pairwise_map]
  exact List.pairwise_lt_range.imp (fun h => by omega)
theorem oneTo_mem {k : Nat} {p : Int → Bool} {x : Int} : x ∈ oneTo k p ↔ (1 ≤ x ∧ x ≤ k) ∧ p x = true := by
  unfold oneTo
  rw [List.mem_filter, List.mem_map]
  constructor
  · rintro ⟨⟨i, hi, rfl⟩, h⟩
    rw [List.mem_range] at hi
    exact ⟨by omega, h⟩
  · rintro ⟨h1, h2⟩
    exact ⟨⟨(x - 1).toNat, by rw [List.mem_range]; omega, by omega⟩, h2⟩

def xmem (a b : List Int) (v : Int) : Bool := decide (v ∈ a) != decide (v ∈ b)

theorem psum_ref {n : Int} {a b : List Int × Bool} (ha : Inc n a.1) (hb : Inc n b.1) : (psum a b).1 = oneTo n.toNat (xmem a.1 b.1) := by
  refine inc_ext (psum_inc ha hb).2 (oneTo_inc _ _) (fun x => ?_)
  rw [psum_mem, oneTo_mem, xmem]
  by_cases h1 : x ∈ a.1 <;> by_cases h2 : x ∈ b.1 <;> simp [h1, h2]
  · have := ha.1 x h1; omega
  · have := hb.1 x h2; omega

def sumOf (n : Int) (a b : List Int × Bool) : (List Int × Bool) × (Int × Int) := if (parCheck n [a, b]).1 ≠ 0 then (([], false), parCheck n [a, b]) else (psum a b, (0, 0))

theorem sum_bad {n : Int} {a b : List Int × Bool} (h : (sumOf n a b).2.1 ≠ 0) : (sumOf n a b).1.1 = [] := by
  unfold sumOf at h ⊢
  split at h
  · rename_i h2; rw [if_pos h2]
  · exact absurd rfl h
theorem sum_ok {n : Int} {a b : List Int × Bool} (h : (sumOf n a b).2.1 = 0) : (0 ≤ n ∧ n ≤ 120) ∧ Inc n a.1 ∧ Inc n b.1 ∧ sumOf n a b = (psum a b, (0, 0)) := by
  have h1 : (parCheck n [a, b]).1 = 0 := by
    unfold sumOf at h
    split at h
    · exact h
    · rename_i h2; simpa using h2
  have h2 := par_ok h1
  exact ⟨h2.1, h2.2.2.1 a (by simp), h2.2.2.1 b (by simp), by rw [sumOf, if_neg (fun h => h h1)]⟩
theorem sum_of {n : Int} {a b : List Int × Bool} (hn : 0 ≤ n ∧ n ≤ 120) (ha : Inc n a.1) (hb : Inc n b.1) : sumOf n a b = (psum a b, (0, 0)) := by
  rw [sumOf, par_of hn (by simp) (by intro p hp; simp at hp; rcases hp with rfl | rfl <;> assumption), if_neg (by simp)]

theorem sum_one : sumOf 2 ([1, 2], true) ([1], false) = (([2], true), (0, 0)) := by
  have i1 : Inc 2 [1, 2] := parity_ok.1 (by simp [parityWrong, parityWrongFrom])
  have i2 : Inc 2 [1] := parity_ok.1 (by simp [parityWrong, parityWrongFrom])
  have i3 : Inc 2 [2] := parity_ok.1 (by simp [parityWrong, parityWrongFrom])
  rw [sum_of (by omega) i1 i2]
  have : (psum ([1, 2], true) ([1], false)).1 = [2] := inc_ext (psum_inc i1 i2).2 i3.2 (fun x => by rw [psum_mem]; simp; omega)
  have e : psum ([1, 2], true) ([1], false) = ([2], true) := Prod.ext this rfl
  rw [e]

theorem psum_assoc {n : Int} {a b c : List Int × Bool} (ha : Inc n a.1) (hb : Inc n b.1) (hc : Inc n c.1) : psum (psum a b) c = psum a (psum b c) := by
  refine Prod.ext (inc_ext (psum_inc (psum_inc ha hb) hc).2 (psum_inc ha (psum_inc hb hc)).2 (fun x => ?_)) ?_
  · rw [psum_mem, psum_mem, psum_mem, psum_mem]
    by_cases h1 : x ∈ a.1 <;> by_cases h2 : x ∈ b.1 <;> by_cases h3 : x ∈ c.1 <;> simp [h1, h2, h3]
  · show ((a.2 != b.2) != c.2) = (a.2 != (b.2 != c.2))
    cases a.2 <;> cases b.2 <;> cases c.2 <;> rfl
theorem psum_comm {n : Int} {a b : List Int × Bool} (ha : Inc n a.1) (hb : Inc n b.1) : psum b a = psum a b := by
  refine Prod.ext (inc_ext (psum_inc hb ha).2 (psum_inc ha hb).2 (fun x => ?_)) ?_
  · rw [psum_mem, psum_mem, or_comm]
  · show (b.2 != a.2) = (a.2 != b.2)
    cases a.2 <;> cases b.2 <;> rfl
theorem psum_self (a : List Int × Bool) : psum a a = ([], false) := by
  refine Prod.ext (List.eq_nil_iff_forall_not_mem.2 (fun x hx => ?_)) ?_
  · rcases psum_mem.1 hx with h | h <;> exact h.2 h.1
  · show (a.2 != a.2) = false
    cases a.2 <;> rfl

theorem ints_eq {a b : List Int} (h1 : a.length = b.length) (h2 : ∀ j, j < a.length → a.getD j 0 = b.getD j 0) : a = b := by
  apply List.ext_getElem h1
  intro i hi hi'
  have := h2 i hi
  simpa [List.getD, hi, hi'] using this

theorem inc_len {n : Int} {zs : List Int} (hn : 0 ≤ n ∧ n ≤ 120) (h : Inc n zs) : zs.length ≤ 120 := by
  have h1 : ∀ (zs : List Int) (lo : Int), (∀ z ∈ zs, lo < z ∧ z ≤ n) → zs.Pairwise (fun x y => x < y) → lo ≤ n → (zs.length : Int) ≤ n - lo := by
    intro zs
    induction zs with
    | nil => intro lo _ _ h; simp; omega
    | cons z zs ih =>
      intro lo hz hp hlo
      rw [List.pairwise_cons] at hp
      have h1 := hz z (List.mem_cons_self ..)
      have := ih z (fun y hy => ⟨hp.1 y hy, (hz y (List.mem_cons_of_mem _ hy)).2⟩) hp.2 (by omega)
      simp only [List.length_cons]
      omega
  have := h1 zs 0 (fun z hz => by have := h.1 z hz; omega) h.2 hn.1
  omega

end Sp
end Go.Um
