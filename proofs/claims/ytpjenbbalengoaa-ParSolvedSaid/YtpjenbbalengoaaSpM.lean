/- Plain facts: the clauses of a parity. No condition. -/
import Derived.Test.YtpjenbbalengoaaSpL
import Derived.Test.YtpjenbbalengoaaSpH
namespace Go.Um
namespace Sp

theorem nrm_congr {ls ms : List (List Int)} (h : ∀ x, x ∈ ls ↔ x ∈ ms) : nrm ls = nrm ms :=
  nub_uniq lt_lit.list (nrm_sorted ls) (fun x => by
    unfold nrm
    rw [nub_mem, List.mem_map, List.mem_map]
    exact ⟨fun ⟨a, h1, h2⟩ => ⟨a, (h a).1 h1, h2⟩, fun ⟨a, h1, h2⟩ => ⟨a, (h a).2 h1, h2⟩⟩)

def signTo (vs : List Int) (q : Nat → Bool) (i : Nat) : List Int := (List.range i).map fun j => if q j = true then -vs.getD j 0 else vs.getD j 0
def oddTo (q : Nat → Bool) : Nat → Bool
  | 0 => false
  | i + 1 => if q i = true then !oddTo q i else oddTo q i
def clsTo (vs : List Int) (odd : Bool) (B : Nat → Nat → Bool) (k : Nat) : List (List Int) := ((List.range k).filter fun s => oddTo (B s) vs.length != odd).map fun s => signTo vs (B s) vs.length
def parCl (p : List Int × Bool) : List (List Int) := nrm (clsTo p.1 p.2 bit (2 ^ p.1.length))
def bitR (n w j : Nat) : Bool := (bits n w).getD j false

theorem signTo_yes {vs : List Int} {q : Nat → Bool} {i : Nat} (h : q i = true) : signTo vs q (i + 1) = signTo vs q i ++ [-vs.getD i 0] := by simp [signTo, List.range_succ, h]
theorem signTo_no {vs : List Int} {q : Nat → Bool} {i : Nat} (h : q i = false) : signTo vs q (i + 1) = signTo vs q i ++ [vs.getD i 0] := by simp [signTo, List.range_succ, h]
theorem signTo_len (vs : List Int) (q : Nat → Bool) (i : Nat) : (signTo vs q i).length = i := by simp [signTo]
theorem clsTo_yes {vs : List Int} {odd : Bool} {B : Nat → Nat → Bool} {k : Nat} (h : oddTo (B k) vs.length ≠ odd) : clsTo vs odd B (k + 1) = clsTo vs odd B k ++ [signTo vs (B k) vs.length] := by
  unfold clsTo
  rw [List.range_succ, List.filter_append, List.filter_cons_of_pos (by simpa using h)]
  simp
theorem clsTo_no {vs : List Int} {odd : Bool} {B : Nat → Nat → Bool} {k : Nat} (h : oddTo (B k) vs.length = odd) : clsTo vs odd B (k + 1) = clsTo vs odd B k := by
  unfold clsTo
  rw [List.range_succ, List.filter_append, List.filter_cons_of_neg (by simpa using h)]
  simp
theorem clsTo_len (vs : List Int) (odd : Bool) (B : Nat → Nat → Bool) (k : Nat) : (clsTo vs odd B k).length ≤ k := by
  unfold clsTo
  rw [List.length_map]
  exact Nat.le_trans (List.length_filter_le _ _) (by simp)
theorem clsTo_mem {vs : List Int} {odd : Bool} {B : Nat → Nat → Bool} {k : Nat} {x : List Int} : x ∈ clsTo vs odd B k ↔ ∃ s, s < k ∧ oddTo (B s) vs.length ≠ odd ∧ signTo vs (B s) vs.length = x := by
  unfold clsTo
  rw [List.mem_map]
  constructor
  · rintro ⟨s, hs, rfl⟩
    obtain ⟨h1, h2⟩ := List.mem_filter.1 hs
    exact ⟨s, List.mem_range.1 h1, by simpa using h2, rfl⟩
  · rintro ⟨s, h1, h2, rfl⟩
    exact ⟨s, List.mem_filter.2 ⟨List.mem_range.2 h1, by simpa using h2⟩, rfl⟩
theorem signTo_range {vs : List Int} {q : Nat → Bool} {i : Nat} {n : Int} (hi : i ≤ vs.length) (h : ∀ v ∈ vs, 1 ≤ v ∧ v ≤ n) : ∀ x ∈ signTo vs q i, x ≠ 0 ∧ -n ≤ x ∧ x ≤ n := by
  intro x hx
  obtain ⟨j, hj, rfl⟩ := List.mem_map.1 hx
  have hj := List.mem_range.1 hj
  have h1 := h _ (getD_mem vs j 0 (by omega))
  split <;> omega

theorem oddTo_congr {q q' : Nat → Bool} : ∀ {i : Nat}, (∀ j, j < i → q j = q' j) → oddTo q i = oddTo q' i
  | 0, _ => rfl
  | i + 1, h => by rw [oddTo, oddTo, oddTo_congr (fun j hj => h j (by omega)), h i (by omega)]
theorem signTo_congr {vs : List Int} {q q' : Nat → Bool} {i : Nat} (h : ∀ j, j < i → q j = q' j) : signTo vs q i = signTo vs q' i :=
  List.map_congr_left (fun j hj => by rw [h j (List.mem_range.1 hj)])

theorem bitR_exists (q : Nat → Bool) (n : Nat) : ∃ s, s < 2 ^ n ∧ ∀ i, i < n → bitR n s i = q i := by
  obtain ⟨s, hs, h⟩ := bit_exists (fun i => q (n - 1 - i)) n
  refine ⟨s, hs, fun i hi => ?_⟩
  have h1 := h (n - 1 - i) (by omega)
  have e : n - 1 - (n - 1 - i) = i := by omega
  rw [e] at h1
  rw [← h1]
  unfold bitR bit
  simp only [bits, List.getD_eq_getElem?_getD, List.getElem?_map, List.getElem?_range hi, Option.map_some, Option.getD_some]

theorem cls_same {vs : List Int} {odd : Bool} {B B' : Nat → Nat → Bool} (h : ∀ q : Nat → Bool, ∃ s, s < 2 ^ vs.length ∧ ∀ i, i < vs.length → B' s i = q i) {x : List Int} (hx : x ∈ clsTo vs odd B (2 ^ vs.length)) : x ∈ clsTo vs odd B' (2 ^ vs.length) := by
  obtain ⟨s, h1, h2, rfl⟩ := clsTo_mem.1 hx
  obtain ⟨s', h3, h4⟩ := h (B s)
  exact clsTo_mem.2 ⟨s', h3, by rw [oddTo_congr h4]; exact h2, signTo_congr h4⟩

theorem parCl_ref (p : List Int × Bool) : nrm (clsTo p.1 p.2 (bitR p.1.length) (2 ^ p.1.length)) = parCl p :=
  nrm_congr (fun _ => ⟨cls_same (fun q => bit_exists q _), cls_same (fun q => bitR_exists q _)⟩)

theorem cls_use {vs : List Int} {odd : Bool} {B : Nat → Nat → Bool} (hl : vs.length ≤ 8) (hr : ∀ v ∈ vs, 1 ≤ v ∧ v ≤ 120) : ∀ l ∈ clsTo vs odd B (2 ^ vs.length), l.length ≤ 1000000 ∧ ∀ x ∈ l, -9223372036854775808 < x ∧ x ≤ 9223372036854775807 := by
  intro l h
  obtain ⟨s, _, _, rfl⟩ := clsTo_mem.1 h
  refine ⟨by rw [signTo_len]; omega, fun x hx => ?_⟩
  have := signTo_range (Nat.le_refl _) hr x hx
  omega

def parCnf (n : Int) (p : List Int × Bool) : Int × List (List Int) × Int × Int :=
  if (parCheck n [p]).1 ≠ 0 then (0, [], parCheck n [p]) else if 8 < p.1.length then (0, [], 2, -1) else (n, parCl p, 0, 0)

theorem pow256 {n : Nat} (h : n ≤ 8) : 2 ^ n ≤ 256 := Nat.pow_le_pow_right (n := 2) (by decide) h
theorem par_one (n : Int) (p : List Int × Bool) (h : (parCheck n [p]).1 = 0) : (0 ≤ n ∧ n ≤ 120) ∧ Inc n p.1 ∧ parCheck n [p] = (0, 0) := by
  obtain ⟨h1, _, h2, h3⟩ := par_ok h
  exact ⟨h1, h2 p (List.mem_cons_self ..), h3⟩
theorem parCl_one : parCl ([1], true) = [[1]] := by
  have h : clsTo [1] true bit (2 ^ 1) = [[1]] := by decide
  show nrm (clsTo [1] true bit (2 ^ 1)) = _
  rw [h]
  simp [nrm, litSort_one, nub, compact, cmpTo, fresh, List.range_succ]
theorem parCnf_one : parCnf 1 ([1], true) = (1, [[1]], 0, 0) := by
  have h : (parCheck 1 [([1], true)]).1 = 0 := by rw [par_of (by decide) (by decide) (by
    intro p hp
    rw [List.mem_singleton.1 hp]
    exact ⟨by decide, by simp⟩)]
  rw [parCnf, if_neg (fun h2 => h2 h), if_neg (by decide), parCl_one]

end Sp
end Go.Um
