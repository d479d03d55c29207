/- Plain functions: lists that are filled anew; Not, Both, Some. No program in sight. No condition. -/
import Derived.Test.YtfabigjdelfagaaSpB
namespace Go.Um
namespace Sp

def fillTo {α : Type} (N : Nat) (f g : Nat → α) (i : Nat) : List α := (List.range N).map fun k => if k < i then g k else f k
theorem fill_len {α : Type} (N : Nat) (f g : Nat → α) (i : Nat) : (fillTo N f g i).length = N := by simp [fillTo]
theorem fill_get {α : Type} {N : Nat} (f g : Nat → α) (i : Nat) {j : Nat} (z : α) (h : j < N) : (fillTo N f g i).getD j z = if j < i then g j else f j := by
  rw [List.getD_eq_getElem?_getD, List.getElem?_eq_getElem (by rw [fill_len]; exact h)]; simp [fillTo]
theorem fill_set {α : Type} {N : Nat} (f g : Nat → α) {i : Nat} (h : i < N) : (fillTo N f g i).set i (g i) = fillTo N f g (i + 1) := by
  apply List.ext_getElem (by simp [fill_len])
  intro j h1 h2
  rw [fill_len] at h2
  rw [List.getElem_set]
  simp only [fillTo, List.getElem_map, List.getElem_range]
  by_cases e : i = j
  · subst e; simp
  · simp only [e, if_false]
    by_cases h3 : j < i
    · rw [if_pos h3, if_pos (by omega)]
    · rw [if_neg h3, if_neg (by omega)]
theorem fill_step {α : Type} {N : Nat} {f g : Nat → α} {i : Nat} {z : α} {h : α → α} (hi : i < N) (hg : g i = h (f i)) : (fillTo N f g i).set i (h ((fillTo N f g i).getD i z)) = fillTo N f g (i + 1) := by
  rw [fill_get f g i z hi, if_neg (Nat.lt_irrefl _), ← hg, fill_set f g hi]
theorem fill_zero {α : Type} (N : Nat) (f g : Nat → α) : fillTo N f g 0 = (List.range N).map f := by simp [fillTo]
theorem fill_end {α : Type} {N i : Nat} (f g : Nat → α) (h : N ≤ i) : fillTo N f g i = (List.range N).map g := by
  apply List.map_congr_left
  intro k hk
  rw [List.mem_range] at hk
  rw [if_pos (by omega)]
theorem btab_map (p : List Bool → Bool) (n : Nat) : btab p n = (List.range (2 ^ n)).map fun (k : Nat) => b01 (p (bits n k)) := by simp [btab, dtab]

theorem wrap_not (b : Bool) : b01 (!b) = IntKind.u8.wrap (1 - b01 b) := by cases b <;> decide

def diaNot (n : Int) (l : List Cho) (r : Int) : DF := if (diaCheck n l r).1 ≠ 0 then ([], 0, diaCheck n l r) else diaBuilt n.toNat (dtab (fun a => !dvalue l r a) n.toNat)
def comb (op : Int) (x y : Bool) : Bool := decide (op / 2 ^ (2 * b01 x + b01 y).toNat % 2 = 1)
def bothWrong (n : Int) (l : List Cho) (r : Int) (l' : List Cho) (r' : Int) : Int × Int := if (diaCheck n l r).1 = 0 then diaCheck n l' r' else diaCheck n l r
def diaBoth (n op : Int) (l : List Cho) (r : Int) (l' : List Cho) (r' : Int) : DF :=
  if (diaCheck n l r).1 ≠ 0 then ([], 0, diaCheck n l r) else if (diaCheck n l' r').1 ≠ 0 then ([], 0, diaCheck n l' r') else if op < 0 ∨ 15 < op then ([], 0, 3, -1) else diaBuilt n.toNat (dtab (fun a => comb op (dvalue l r a) (dvalue l' r' a)) n.toNat)
def some2 (p : List Bool → Bool) (v : Int) (a : List Bool) : Bool := p (a.set (v - 1).toNat false) || p (a.set (v - 1).toNat true)
def diaSome (n : Int) (l : List Cho) (r v : Int) : DF :=
  if (diaCheck n l r).1 ≠ 0 then ([], 0, diaCheck n l r) else if v < 1 ∨ n < v then ([], 0, 3, -1) else diaBuilt n.toNat (dtab (some2 (dvalue l r) v) n.toNat)

theorem of_code {n : Int} {ls : List (List Int)} (h : (diaOf n ls).2.2.1 ≠ 0) : (diaOf n ls).1 = [] ∧ (diaOf n ls).2.1 = 0 := by
  unfold diaOf diaBuilt at h ⊢
  split
  · exact ⟨rfl, rfl⟩
  · split
    · exact ⟨rfl, rfl⟩
    · split
      · exact ⟨rfl, rfl⟩
      · rename_i h1 h2 h3
        rw [if_neg h1, if_neg h2, if_neg h3] at h
        exact absurd rfl h
theorem of_try {n : Int} {ls : List (List Int)} (h : (diaOf n ls).2.2.1 = 0) : (tryWrong n ls).1 = 0 := by
  refine Classical.byContradiction fun hn => hn ?_
  rw [of_bad hn] at h
  exact h

/-- Two tables have one diagram just if they are the same. -/
theorem grow_inj {n : Nat} {t t' : List Bool} (ht : t.length = 2 ^ n) (ht' : t'.length = 2 ^ n) : ((grow n [] t 1).1 = (grow n [] t' 1).1 ∧ (grow n [] t 1).2 = (grow n [] t' 1).2) ↔ t = t' := by
  constructor
  · intro h
    rw [← built_tab ht, ← built_tab ht', h.1, h.2]
  · rintro rfl; exact ⟨rfl, rfl⟩
end Sp
end Go.Um
namespace Go.Um
namespace Sp
theorem app_eq {a b : List Bool} {x y : Bool} (h : a.length = b.length) : decide (a ++ [x] = b ++ [y]) = (decide (a = b) && (x == y)) := by
  have : (a ++ [x] = b ++ [y]) ↔ a = b ∧ x = y := ⟨fun h2 => ⟨(List.append_inj h2 h).1, by simpa using (List.append_inj h2 h).2⟩, by rintro ⟨rfl, rfl⟩; rfl⟩
  simp only [this, Bool.decide_and]
  cases x <;> cases y <;> simp
end Sp
end Go.Um
namespace Go.Um
namespace Sp
theorem fill_to {α : Type} {N : Nat} {f g : Nat → α} {i : Nat} {x : α} (hi : i < N) (hg : g i = x) : (fillTo N f g i).set i x = fillTo N f g (i + 1) := by
  rw [← hg, fill_set f g hi]
theorem comb_wrap (op : Int) (x y : Bool) : b01 (comb op x y) = IntKind.u8.wrap (op / 2 ^ (2 * b01 x + b01 y).toNat % 2) := by
  unfold comb
  rcases Int.emod_two_eq (op / 2 ^ (2 * b01 x + b01 y).toNat) with h | h
  · rw [h]; decide
  · rw [h]; decide
theorem comb_sum {x y : Bool} : IntKind.u8.wrap (IntKind.u8.wrap (2 * b01 x) + b01 y) = 2 * b01 x + b01 y := by cases x <;> cases y <;> decide
theorem bit_test (w k : Nat) : decide ((w : Int) / 2 ^ k % 2 = 1) = w.testBit k := by
  rw [Nat.testBit_eq_decide_div_mod_eq, pow_int, ← Int.natCast_ediv]
  apply decide_eq_decide.2
  omega
theorem bits_get {n w j : Nat} (h : j < n) : (bits n w).getD j false = w.testBit (n - 1 - j) := by
  rw [List.getD_eq_getElem?_getD, List.getElem?_eq_getElem (by rw [bits_length]; exact h), ← bit_test]
  simp [bits]
theorem bits_xor {n i v : Nat} (h1 : 1 ≤ v) (h2 : v ≤ n) : bits n ((i ^^^ 2 ^ (n - v) : Nat) : Int) = (bits n i).set (v - 1) (!(bits n i).getD (v - 1) false) := by
  refine eq_of_getD (z := false) (i := n) (by rw [List.length_set, bits_length, bits_length]) (by rw [bits_length]; exact Nat.le_refl _) (fun j hj => ?_)
  rw [bits_get hj, Nat.testBit_xor, Nat.testBit_two_pow]
  have hs : ((bits n i).set (v - 1) (!(bits n i).getD (v - 1) false)).getD j false = if v - 1 = j then !(bits n i).getD (v - 1) false else (bits n i).getD j false := by
    rw [List.getD_eq_getElem?_getD, List.getElem?_set]
    by_cases e : v - 1 = j
    · rw [if_pos e, if_pos (by rw [bits_length]; omega), if_pos e]; rfl
    · rw [if_neg e, if_neg e, List.getD_eq_getElem?_getD]
  rw [hs]
  by_cases e : v - 1 = j
  · rw [if_pos e, bits_get (by omega), decide_eq_true (by omega : n - v = n - 1 - j), show n - 1 - (v - 1) = n - 1 - j by omega]
    simp
  · rw [if_neg e, bits_get hj, decide_eq_false (by omega : ¬ n - v = n - 1 - j)]
    simp
theorem set_self {a : List Bool} {k : Nat} (h : k < a.length) : a.set k (a.getD k false) = a := by
  apply List.ext_getElem (by simp)
  intro j h1 h2
  rw [List.getElem_set]
  split
  · rename_i e; subst e; rw [List.getD_eq_getElem?_getD, List.getElem?_eq_getElem h]; rfl
  · rfl
theorem some_xor (p : List Bool → Bool) {n i : Nat} {v : Int} (h : 1 ≤ v ∧ v ≤ n) : b01 (some2 p v (bits n i)) = (if (p (bits n i) || p (bits n ((i ^^^ 2 ^ (n - v.toNat) : Nat) : Int))) = true then 1 else 0) := by
  have e : (v - 1).toNat = v.toNat - 1 := by omega
  have hl : v.toNat - 1 < (bits n i).length := by rw [bits_length]; omega
  have h1 := bits_xor (n := n) (i := i) (v := v.toNat) (by omega) (by omega)
  have h2 := set_self hl
  unfold some2 b01
  rw [h1, e]
  cases hb : (bits n i).getD (v.toNat - 1) false with
  | true => rw [hb] at h2; rw [h2]; simp [Bool.or_comm]
  | false => rw [hb] at h2; rw [h2]; simp
theorem xor_lt {n i v : Nat} (hi : i < 2 ^ n) (h1 : 1 ≤ v) (h2 : v ≤ n) : i ^^^ 2 ^ (n - v) < 2 ^ n := Nat.xor_lt_two_pow hi (Nat.pow_lt_pow_right (by decide) (by omega))
end Sp
end Go.Um
namespace Go.Um
namespace Sp
theorem both_ok {n : Int} {l l' : List Cho} {r r' : Int} (h : (bothWrong n l r l' r').1 = 0) : (diaCheck n l r).1 = 0 ∧ (diaCheck n l' r').1 = 0 := by
  unfold bothWrong at h
  split at h
  · exact ⟨by assumption, h⟩
  · exact absurd h (by assumption)
theorem both_zero {n : Int} {l l' : List Cho} {r r' : Int} (h : (bothWrong n l r l' r').1 = 0) : bothWrong n l r l' r' = (0, 0) := by
  have := both_ok h
  rw [bothWrong, if_pos this.1, dia_zero this.2]
theorem both_bad {n op : Int} {l l' : List Cho} {r r' : Int} (h : (bothWrong n l r l' r').1 ≠ 0) : diaBoth n op l r l' r' = ([], 0, bothWrong n l r l' r') := by
  unfold bothWrong at h ⊢
  by_cases h1 : (diaCheck n l r).1 = 0
  · rw [if_pos h1] at h ⊢
    rw [diaBoth, if_neg (fun hh => hh h1), if_pos h]
  · rw [if_neg h1, diaBoth, if_pos h1]
end Sp
end Go.Um
