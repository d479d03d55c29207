/- Plain facts: the parities in clauses. No condition. -/
import Derived.Test.YtofonmfoificjaaSpM
namespace Go.Um
namespace Sp

abbrev lti : Int → Int → Bool := fun x y => decide (x < y)
def lenOk (x : List Int) : Bool := decide (1 ≤ x.length) && decide (x.length ≤ 8)
def vset (x : List Int) : List Int := srt (x.map av)
def sets (ls : List (List Int)) : List (List Int) := nub [] (ltL lti) ((ls.filter lenOk).map vset)
def hasC (ls : List (List Int)) (c : List Int) : Bool := ls.any fun x => decide (litSort x = c)
def okP (ls : List (List Int)) (p : List Int × Bool) : Bool := (parCl p).all (hasC ls)
def oddsTo (ls : List (List Int)) (vs : List Int) (j : Nat) : List (List Int × Bool) := (([false, true].take j).filter fun o => okP ls (vs, o)).map fun o => (vs, o)
def findTo (ls : List (List Int)) (i : Nat) : List (List Int × Bool) := ((sets ls).take i).flatMap fun vs => oddsTo ls vs 2
def findP (ls : List (List Int)) : List (List Int × Bool) := findTo ls (sets ls).length
def findOf (n : Int) (ls : List (List Int)) : List (List Int × Bool) × Int × Int := if (check n ls).1 ≠ 0 then ([], check n ls) else (findP ls, 0, 0)

theorem findTo_succ {ls : List (List Int)} {i : Nat} (hi : i < (sets ls).length) : findTo ls (i + 1) = findTo ls i ++ oddsTo ls ((sets ls).getD i []) 2 := by
  unfold findTo
  rw [take_getD (sets ls) i [] hi, List.flatMap_append]
  simp
theorem odds_yes {ls : List (List Int)} {vs : List Int} {j : Nat} (hj : j < 2) (h : okP ls (vs, [false, true].getD j false) = true) : oddsTo ls vs (j + 1) = oddsTo ls vs j ++ [(vs, [false, true].getD j false)] := by
  unfold oddsTo
  rw [take_getD [false, true] j false hj, List.filter_append, List.filter_cons_of_pos (p := fun o => okP ls (vs, o)) h]
  simp
theorem odds_no {ls : List (List Int)} {vs : List Int} {j : Nat} (hj : j < 2) (h : okP ls (vs, [false, true].getD j false) = false) : oddsTo ls vs (j + 1) = oddsTo ls vs j := by
  unfold oddsTo
  rw [take_getD [false, true] j false hj, List.filter_append, List.filter_cons_of_neg (p := fun o => okP ls (vs, o)) (by rw [h]; decide)]
  simp
theorem odds_len (ls : List (List Int)) (vs : List Int) (j : Nat) : (oddsTo ls vs j).length ≤ 2 := by
  unfold oddsTo
  rw [List.length_map]
  refine Nat.le_trans (List.length_filter_le _ _) ?_
  simp
  omega
theorem findTo_len (ls : List (List Int)) : ∀ i, i ≤ (sets ls).length → (findTo ls i).length ≤ 2 * i
  | 0, _ => by simp [findTo]
  | i + 1, hi => by
    have := findTo_len ls i (by omega)
    have h2 := odds_len ls ((sets ls).getD i []) 2
    rw [findTo_succ (by omega), List.length_append]
    omega
theorem sets_len (ls : List (List Int)) : (sets ls).length ≤ ls.length := by
  unfold sets nub compact
  refine Nat.le_trans (cmpTo_len _) ?_
  rw [List.length_mergeSort, List.length_map]
  exact List.length_filter_le _ _
theorem sets_mem {ls : List (List Int)} {v : List Int} : v ∈ sets ls ↔ ∃ x ∈ ls, lenOk x = true ∧ vset x = v := by
  unfold sets
  rw [nub_mem, List.mem_map]
  constructor
  · rintro ⟨x, hx, rfl⟩
    exact ⟨x, (List.mem_filter.1 hx).1, (List.mem_filter.1 hx).2, rfl⟩
  · rintro ⟨x, h1, h2, rfl⟩
    exact ⟨x, List.mem_filter.2 ⟨h1, h2⟩, rfl⟩
theorem vset_len (x : List Int) : (vset x).length = x.length := by unfold vset; rw [srt_len, List.length_map]
theorem lenOk_iff {x : List Int} : lenOk x = true ↔ 1 ≤ x.length ∧ x.length ≤ 8 := by simp [lenOk]

theorem sets_use {n : Int} {ls : List (List Int)} (h : (check n ls).1 = 0) {v : List Int} (hv : v ∈ sets ls) : (1 ≤ v.length ∧ v.length ≤ 8) ∧ ∀ y ∈ v, 1 ≤ y ∧ y ≤ n := by
  obtain ⟨x, h1, h2, rfl⟩ := sets_mem.1 hv
  rw [lenOk_iff] at h2
  refine ⟨by rw [vset_len]; exact h2, fun y hy => ?_⟩
  unfold vset at hy
  rw [srt_mem, List.mem_map] at hy
  obtain ⟨z, hz, rfl⟩ := hy
  have := wrong_ok ((check_ok h).2.2 x h1).2 z hz
  unfold av
  omega

def setsTo (ls : List (List Int)) (i : Nat) : List (List Int) := ((ls.take i).filter lenOk).map vset
theorem setsTo_no {ls : List (List Int)} {i : Nat} (hi : i < ls.length) (h : ¬ (1 ≤ (ls.getD i []).length ∧ (ls.getD i []).length ≤ 8)) : setsTo ls (i + 1) = setsTo ls i := by
  unfold setsTo
  rw [take_getD ls i [] hi, List.filter_append, List.filter_cons_of_neg (by rw [lenOk_iff]; exact h)]
  simp
theorem setsTo_yes {ls : List (List Int)} {i : Nat} (hi : i < ls.length) (h : 1 ≤ (ls.getD i []).length ∧ (ls.getD i []).length ≤ 8) : setsTo ls (i + 1) = setsTo ls i ++ [vset (ls.getD i [])] := by
  unfold setsTo
  rw [take_getD ls i [] hi, List.filter_append, List.filter_cons_of_pos (lenOk_iff.2 h)]
  simp
theorem setsTo_len (ls : List (List Int)) (i : Nat) : (setsTo ls i).length ≤ i := by
  unfold setsTo
  rw [List.length_map]
  refine Nat.le_trans (List.length_filter_le _ _) (List.length_take_le _ _)
theorem setsTo_end (ls : List (List Int)) {i : Nat} (h : ls.length ≤ i) : compact [] ((setsTo ls i).mergeSort fun x y => !ltL lti y x) = sets ls := by
  unfold setsTo
  rw [List.take_of_length_le h]
  rfl
theorem vset_take {x : List Int} {j : Nat} (h : x.length ≤ j) : vset x = srt ((x.take j).map av) := by rw [List.take_of_length_le h]; rfl
theorem okP_yes {ls : List (List Int)} {p : List Int × Bool} (h : ((parCl p).any fun c => !hasC ls c) = false) : okP ls p = true := by
  unfold okP
  rw [List.all_eq_not_any_not, h]
  rfl
theorem okP_no {ls : List (List Int)} {p : List Int × Bool} (h : ((parCl p).any fun c => !hasC ls c) = true) : okP ls p = false := by
  unfold okP
  rw [List.all_eq_not_any_not, h]
  rfl

/-! ### Order of parities -/

def parLt (a b : List Int × Bool) : Bool := ltL lti a.1 b.1 || (decide (a.1 = b.1) && (!a.2 && b.2))

theorem lt_par : Lt parLt where
  irr x := by
    have := lt_int.list.irr x.1
    unfold parLt
    rw [show ltL lti x.1 x.1 = false from this]
    cases x.2 <;> simp
  tr x y z h1 h2 := by
    unfold parLt at *
    simp only [Bool.or_eq_true, Bool.and_eq_true, decide_eq_true_eq, Bool.not_eq_true'] at *
    rcases h1 with h1 | ⟨h1, h1'⟩
    · rcases h2 with h2 | ⟨h2, h2'⟩
      · exact .inl (lt_int.list.tr _ _ _ h1 h2)
      · exact .inl (h2 ▸ h1)
    · rcases h2 with h2 | ⟨h2, h2'⟩
      · exact .inl (h1 ▸ h2)
      · exact .inr ⟨h1.trans h2, h1'.1, h2'.2⟩
  tot x y h1 h2 := by
    unfold parLt at *
    simp only [Bool.or_eq_false_iff, Bool.and_eq_false_iff, decide_eq_false_iff_not, Bool.not_eq_false'] at *
    have e : x.1 = y.1 := lt_int.list.tot _ _ h1.1 h2.1
    obtain ⟨a, p⟩ := x
    obtain ⟨b, q⟩ := y
    simp only at e
    subst e
    cases p <;> cases q <;> simp_all

theorem lti_cmp (a b : List Int) : ltL lti a b = decide (cmpL cmpI a b < 0) := by
  rw [Bool.eq_iff_iff, decide_eq_true_eq]
  exact (cmpL_lt cmpI_lt0 cmpI_zero a b).symm
theorem cmpI_same {a b : List Int} {i : Nat} (h : ∀ j, j < i → a.getD j 0 = b.getD j 0) : ∀ j, j < i → cmpI (a.getD j 0) (b.getD j 0) = 0 := fun j hj => by
  rw [h j hj]
  exact cmpI_abs.2.2 rfl
theorem par_next {a b : List Int × Bool} {i : Nat} (h1 : i < a.1.length) (h2 : i < b.1.length) (h : ∀ j, j < i → a.1.getD j 0 = b.1.getD j 0) (hne : ¬ a.1.getD i 0 = b.1.getD i 0) : parLt a b = decide (a.1.getD i 0 < b.1.getD i 0) := by
  have e : a.1 ≠ b.1 := fun e => hne (by rw [e])
  rw [parLt, lti_cmp, cmpL_next h1 h2 (cmpI_same h) (fun h3 => hne (cmpI_abs.2.1 h3)), decide_eq_false e, Bool.false_and, Bool.or_false]
  exact decide_eq_decide.2 cmpI_abs.1
theorem par_short {a b : List Int × Bool} {i : Nat} (h1 : i ≤ a.1.length) (h2 : i ≤ b.1.length) (h : ∀ j, j < i → a.1.getD j 0 = b.1.getD j 0) (hl : (i = a.1.length ∨ i = b.1.length) ∧ a.1.length ≠ b.1.length) : parLt a b = decide (a.1.length < b.1.length) := by
  have e : a.1 ≠ b.1 := fun e => hl.2 (by rw [e])
  rw [parLt, lti_cmp, decide_eq_false e, Bool.false_and, Bool.or_false]
  by_cases h3 : a.1.length ≤ b.1.length
  · obtain rfl : i = a.1.length := by omega
    rw [cmpL_end h3 (cmpI_same h), if_pos (by omega), decide_eq_true (by decide), decide_eq_true (by omega)]
  · rw [cmpL_more (i := i) (by omega) (by omega) (cmpI_same h), decide_eq_false (by decide), decide_eq_false (by omega)]
theorem par_same {a b : List Int × Bool} {i : Nat} (h1 : i ≤ a.1.length) (h2 : i ≤ b.1.length) (h : ∀ j, j < i → a.1.getD j 0 = b.1.getD j 0) (hl : (i = a.1.length ∨ i = b.1.length) ∧ a.1.length = b.1.length) : parLt a b = (!a.2 && b.2) := by
  have e : a.1 = b.1 := lists_eq hl.2 (fun j hj => h j (by omega))
  rw [parLt, e, show ltL lti b.1 b.1 = false from lt_int.list.irr _, decide_eq_true rfl, Bool.false_or, Bool.true_and]

theorem odds_mem {ls : List (List Int)} {vs : List Int} {p : List Int × Bool} : p ∈ oddsTo ls vs 2 ↔ p.1 = vs ∧ okP ls p = true := by
  unfold oddsTo
  rw [List.mem_map]
  obtain ⟨a, o⟩ := p
  constructor
  · rintro ⟨o', ho, e⟩
    simp only [Prod.mk.injEq] at e
    obtain ⟨rfl, rfl⟩ := e
    exact ⟨rfl, (List.mem_filter.1 ho).2⟩
  · rintro ⟨h1, h2⟩
    simp only at h1
    subst h1
    exact ⟨o, List.mem_filter.2 ⟨by cases o <;> simp, h2⟩, rfl⟩
theorem findP_mem {ls : List (List Int)} {p : List Int × Bool} : p ∈ findP ls ↔ p.1 ∈ sets ls ∧ okP ls p = true := by
  unfold findP findTo
  rw [List.take_length, List.mem_flatMap]
  constructor
  · rintro ⟨vs, h1, h2⟩
    obtain ⟨h3, h4⟩ := odds_mem.1 h2
    exact ⟨h3 ▸ h1, h4⟩
  · rintro ⟨h1, h2⟩
    exact ⟨p.1, h1, odds_mem.2 ⟨rfl, h2⟩⟩
theorem odds_sorted (ls : List (List Int)) (vs : List Int) : (oddsTo ls vs 2).Pairwise fun x y => parLt x y = true := by
  have h : ([false, true].filter fun o => okP ls (vs, o)).Pairwise fun a b => parLt (vs, a) (vs, b) = true := by
    refine List.Pairwise.filter _ ?_
    simp [parLt]
  unfold oddsTo
  rw [List.pairwise_map]
  exact h
theorem findP_sorted (ls : List (List Int)) : (findP ls).Pairwise fun x y => parLt x y = true := by
  have hs : (sets ls).Pairwise fun x y => ltL lti x y = true := nub_sorted lt_int.list _
  have key : ∀ i, i ≤ (sets ls).length → (findTo ls i).Pairwise fun x y => parLt x y = true := by
    intro i
    induction i with
    | zero => intro _; simp [findTo]
    | succ i ih =>
      intro hi
      rw [findTo_succ (by omega)]
      refine List.pairwise_append.2 ⟨ih (by omega), odds_sorted _ _, fun x hx y hy => ?_⟩
      unfold findTo at hx
      obtain ⟨vs, h1, h2⟩ := List.mem_flatMap.1 hx
      obtain ⟨j, hj, rfl⟩ := List.getElem_of_mem h1
      have hji : j < i := by simp at hj; omega
      have e1 := (odds_mem.1 h2).1
      have e2 := (odds_mem.1 hy).1
      have := List.pairwise_iff_getElem.1 hs j i (by omega) (by omega) hji
      unfold parLt
      rw [e1, e2, List.getElem_take]
      have e3 : (sets ls).getD i [] = (sets ls)[i] := by simp [List.getD, show i < (sets ls).length by omega]
      rw [e3, this]
      rfl
  exact key _ (Nat.le_refl _)

/-! ### Put at its place, one by one -/

section
variable {α : Type} [DecidableEq α] {z : α} {lt : α → α → Bool} (hl : Lt lt)
include hl
theorem nub_put {l : List α} {x : α} {k : Nat} (hk : k ≤ (nub z lt l).length) (h1 : ∀ y ∈ (nub z lt l).take k, lt y x = true) (h2 : k < (nub z lt l).length → lt ((nub z lt l).getD k z) x = false) (h3 : k < (nub z lt l).length → (nub z lt l).getD k z ≠ x) :
    nub z lt (l ++ [x]) = (nub z lt l).take k ++ [x] ++ (nub z lt l).drop k :=
  (nub_uniq hl (put_sorted hl (nub_sorted hl l) hk h1 h2 h3) (fun y => by
    rw [put_mem, nub_mem, List.mem_append, List.mem_singleton]
    exact Or.comm)).symm
theorem nub_skip {l : List α} {x : α} (h : x ∈ nub z lt l) : nub z lt (l ++ [x]) = nub z lt l :=
  (nub_uniq hl (nub_sorted hl l) (fun y => by
    rw [nub_mem, List.mem_append, List.mem_singleton]
    exact ⟨.inl, fun h2 => h2.elim id (fun e => by rw [e]; exact nub_mem.1 h)⟩)).symm
end

def cand (ls : List (List Int)) (x : List Int) (k : Nat) : List (List Int × Bool) := if lenOk x = true then oddsTo ls (x.map av) k else []
def candTo (ls : List (List Int)) (i : Nat) : List (List Int × Bool) := ((nrm ls).take i).flatMap fun x => cand ls x 2
abbrev nubP : List (List Int × Bool) → List (List Int × Bool) := nub ([], false) parLt

theorem nubP_nil : nubP [] = [] := by simp [nubP, nub, compact, cmpTo]
theorem candTo_succ {ls : List (List Int)} {i : Nat} (hi : i < (nrm ls).length) : candTo ls (i + 1) = candTo ls i ++ cand ls ((nrm ls).getD i []) 2 := by
  unfold candTo
  rw [take_getD (nrm ls) i [] hi, List.flatMap_append]
  simp
theorem cand_zero (ls : List (List Int)) (x : List Int) : cand ls x 0 = [] := by
  unfold cand
  split <;> simp [oddsTo]
theorem cand_bad {ls : List (List Int)} {x : List Int} (h : ¬ (1 ≤ x.length ∧ x.length ≤ 8)) (k : Nat) : cand ls x k = [] := by
  unfold cand
  rw [if_neg (by rw [lenOk_iff]; exact h)]
theorem cand_yes {ls : List (List Int)} {x : List Int} {k : Nat} (h : 1 ≤ x.length ∧ x.length ≤ 8) (hk : k < 2) (ho : okP ls (x.map av, [false, true].getD k false) = true) : cand ls x (k + 1) = cand ls x k ++ [(x.map av, [false, true].getD k false)] := by
  unfold cand
  rw [if_pos (lenOk_iff.2 h), if_pos (lenOk_iff.2 h), odds_yes hk ho]
theorem cand_no {ls : List (List Int)} {x : List Int} {k : Nat} (hk : k < 2) (ho : okP ls (x.map av, [false, true].getD k false) = false) : cand ls x (k + 1) = cand ls x k := by
  unfold cand
  rw [odds_no hk ho]

theorem hasC_iff {ls : List (List Int)} {c : List Int} : hasC ls c = decide (c ∈ nrm ls) := by
  rw [Bool.eq_iff_iff, decide_eq_true_eq]
  unfold hasC nrm
  rw [nub_mem, List.any_eq_true, List.mem_map]
  constructor
  · rintro ⟨x, h1, h2⟩; exact ⟨x, h1, of_decide_eq_true h2⟩
  · rintro ⟨x, h1, h2⟩; exact ⟨x, h1, decide_eq_true h2⟩
theorem okP_in (ls : List (List Int)) (p : List Int × Bool) : ((parCl p).all fun c => decide (c ∈ nrm ls)) = okP ls p := by
  unfold okP
  congr 1
  funext c
  exact hasC_iff.symm

theorem vset_lit {n : Int} {x : List Int} (h : (wrong n x).1 = 0) : (litSort x).map av = vset x := by
  have hd := (wrong_iff.1 h).2
  refine inc_ext (litSort_inc hd) (srt_inc ?_) (fun v => ?_)
  · show (x.map av).Pairwise _
    rw [List.pairwise_map]
    exact hd
  · unfold vset
    rw [srt_mem, List.mem_map, List.mem_map]
    exact ⟨fun ⟨a, h1, h2⟩ => ⟨a, litSort_mem.1 h1, h2⟩, fun ⟨a, h1, h2⟩ => ⟨a, litSort_mem.2 h1, h2⟩⟩

theorem candTo_mem {n : Int} {ls : List (List Int)} (h : (check n ls).1 = 0) (p : List Int × Bool) : p ∈ candTo ls (nrm ls).length ↔ p ∈ findP ls := by
  unfold candTo
  rw [List.take_length, List.mem_flatMap, findP_mem, sets_mem]
  constructor
  · rintro ⟨x, h1, h2⟩
    obtain ⟨y, hy, rfl⟩ := nrm_elem h1
    unfold cand at h2
    split at h2
    · rename_i hl
      obtain ⟨h3, h4⟩ := odds_mem.1 h2
      rw [vset_lit ((check_ok h).2.2 y hy).2] at h3
      refine ⟨⟨y, hy, ?_, h3.symm⟩, h4⟩
      rw [lenOk_iff, litSort_len] at hl
      exact lenOk_iff.2 hl
    · cases h2
  · rintro ⟨⟨y, hy, h2, h3⟩, h4⟩
    refine ⟨litSort y, by unfold nrm; rw [nub_mem]; exact List.mem_map.2 ⟨y, hy, rfl⟩, ?_⟩
    unfold cand
    rw [lenOk_iff] at h2
    rw [if_pos (by rw [lenOk_iff, litSort_len]; exact h2), vset_lit ((check_ok h).2.2 y hy).2, h3]
    exact odds_mem.2 ⟨rfl, h4⟩

theorem findP_ref {n : Int} {ls : List (List Int)} (h : (check n ls).1 = 0) : nubP (candTo ls (nrm ls).length) = findP ls :=
  (nub_uniq lt_par (findP_sorted ls) (fun p => (candTo_mem h p).symm)).symm
theorem nub_len {α : Type} [DecidableEq α] (z : α) (lt : α → α → Bool) (l : List α) : (nub z lt l).length ≤ l.length := by
  unfold nub compact
  refine Nat.le_trans (cmpTo_len _) ?_
  rw [List.length_mergeSort]
  exact Nat.le_refl _
theorem nubP_len (l : List (List Int × Bool)) : (nubP l).length ≤ l.length := nub_len _ _ l
theorem candTo_len (ls : List (List Int)) : ∀ i, i ≤ (nrm ls).length → (candTo ls i).length ≤ 2 * i
  | 0, _ => by simp [candTo]
  | i + 1, hi => by
    have := candTo_len ls i (by omega)
    rw [candTo_succ (by omega), List.length_append]
    have : (cand ls ((nrm ls).getD i []) 2).length ≤ 2 := by
      unfold cand
      split
      · exact odds_len _ _ _
      · simp
    omega
theorem cand_len (ls : List (List Int)) (x : List Int) (k : Nat) : (cand ls x k).length ≤ 2 := by
  unfold cand
  split
  · exact odds_len _ _ _
  · simp

/-! ### A small one -/

theorem sort_id {l : List Int} (h : l.Pairwise fun a b => av a < av b ∨ (av a = av b ∧ b ≤ a)) : litSort l = l := (litSort_uniq (List.Perm.refl _) h).symm

theorem find_pair : findOf 2 [[1, 2], [-1]] = ([([1], false)], 0, 0) := by
  have hc : (check 2 [[1, 2], [-1]]).1 = 0 := by simp [check, checkFrom, wrong, wrongFrom, dup, Int.max_def]
  have hv : ∀ x, hasC [[1, 2], [-1]] x = decide (x = [1, 2] ∨ x = [-1]) := by
    intro x
    have e1 : litSort [1, 2] = [1, 2] := sort_id (by simp [av, Int.max_def])
    have e2 : litSort [-1] = [-1] := litSort_one _
    simp only [hasC, List.any_cons, List.any_nil, e1, e2, Bool.or_false]
    rw [Bool.eq_iff_iff]
    simp only [Bool.or_eq_true, decide_eq_true_eq]
    exact ⟨fun h => h.elim (fun h => .inl h.symm) (fun h => .inr h.symm), fun h => h.elim (fun h => .inl h.symm) (fun h => .inr h.symm)⟩
  have hall : ∀ p : List Int × Bool, okP [[1, 2], [-1]] p = true ↔ ∀ c ∈ clsTo p.1 p.2 bit (2 ^ p.1.length), litSort c = [1, 2] ∨ litSort c = [-1] := by
    intro p
    unfold okP
    rw [List.all_eq_true]
    constructor
    · intro h c hc
      have := h (litSort c) (by unfold parCl nrm; rw [nub_mem]; exact List.mem_map.2 ⟨c, hc, rfl⟩)
      rw [hv, decide_eq_true_eq] at this
      exact this
    · intro h x hx
      obtain ⟨c, h1, rfl⟩ := nrm_elem hx
      rw [hv, decide_eq_true_eq]
      exact h c h1
  rw [findOf, if_neg (fun h => h hc)]
  congr 1
  refine lt_par.uniq (findP_sorted _) (by simp) (fun p => ?_)
  rw [findP_mem, sets_mem, hall]
  obtain ⟨a, o⟩ := p
  simp only [List.mem_cons, List.not_mem_nil, or_false, Prod.mk.injEq]
  have s1 : vset [1, 2] = [1, 2] := by
    refine inc_ext (srt_inc (by decide)) (by decide) (fun v => ?_)
    show v ∈ srt _ ↔ _
    rw [srt_mem]
    simp [av, Int.max_def]
  have s2 : vset [-1] = [1] := by simp [vset, srt, av, Int.max_def]
  have c0 : clsTo [1] false bit (2 ^ 1) = [[-1]] := by decide
  have c1 : clsTo [1] true bit (2 ^ 1) = [[1]] := by decide
  have c2 : clsTo [1, 2] false bit (2 ^ 2) = [[-1, 2], [1, -2]] := by decide
  have c3 : clsTo [1, 2] true bit (2 ^ 2) = [[1, 2], [-1, -2]] := by decide
  have i1 : litSort [1] = [1] := litSort_one _
  have i2 : litSort [-1] = [-1] := litSort_one _
  have i3 : litSort [-1, 2] = [-1, 2] := sort_id (by simp [av, Int.max_def])
  have i4 : litSort [-1, -2] = [-1, -2] := sort_id (by simp [av, Int.max_def])
  constructor
  · rintro ⟨⟨x, hx, _, rfl⟩, h⟩
    rcases hx with rfl | rfl
    · rw [s1] at h
      exfalso
      cases o
      · have := h [-1, 2] (by show _ ∈ clsTo [1, 2] false bit (2 ^ 2); rw [c2]; simp)
        rw [i3] at this
        simp at this
      · have := h [-1, -2] (by show _ ∈ clsTo [1, 2] true bit (2 ^ 2); rw [c3]; simp)
        rw [i4] at this
        simp at this
    · rw [s2] at h
      cases o
      · exact ⟨s2, rfl⟩
      · have := h [1] (by show _ ∈ clsTo [1] true bit (2 ^ 1); rw [c1]; simp)
        rw [i1] at this
        simp at this
  · rintro ⟨rfl, rfl⟩
    refine ⟨⟨[-1], by simp, by simp [lenOk], s2⟩, fun c hc => ?_⟩
    have hc : c ∈ clsTo [1] false bit (2 ^ 1) := hc
    rw [c0, List.mem_singleton] at hc
    subst hc
    exact .inr i2

end Sp
end Go.Um
