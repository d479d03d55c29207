/- Plain laws: what the laws of interpolants ask. No program in sight. No condition. -/
import Derived.Test.YtpjenbbalengoaaPD
namespace Go.Um
namespace Sp

section
variable {n m : Int} {a b : List (List Int)}
theorem betW_a (h : (check n a).1 ≠ 0) : betW n a m b = check n a := by rw [betW, if_pos h]
theorem betW_n (h1 : (check n a).1 = 0) (h2 : (check m b).1 = 0) (h3 : n ≠ m) : betW n a m b = (9, -1) := by rw [betW, if_neg (fun h => h h1), if_neg (fun h => h h2), if_pos h3]
theorem betW_m (h1 : (check n a).1 = 0) (h2 : (check m b).1 = 0) (h3 : n = m) (h4 : 16 < n ∨ 400 < a.length + b.length) : betW n a m b = (2, -1) := by rw [betW, if_neg (fun h => h h1), if_neg (fun h => h h2), if_neg (fun h => h h3), if_pos h4]
theorem betW_o (h1 : (check n a).1 = 0) (h2 : ¬ ((check m b).1 = 0 ∧ n ≠ m)) (h3 : ¬ ((check m b).1 = 0 ∧ (16 < n ∨ 400 < a.length + b.length))) : betW n a m b = check m b := by
  rw [betW, if_neg (fun h => h h1)]
  by_cases h4 : (check m b).1 = 0
  · rw [if_neg (fun h => h h4), if_neg (fun h => h2 ⟨h4, h⟩), if_neg (fun h => h3 ⟨h4, h⟩), check_zero h4]
  · rw [if_pos h4]
end

/-! ### Resolution as the reference has it -/
def RInv (v : Int) (L out : List Int) (i : Nat) : Prop :=
  i ≤ L.length ∧ resGo v [] L = resGo v out (L.drop i) ∧ out.length ≤ i ∧ (∀ x ∈ out, -9223372036854775808 < x ∧ x ≤ 9223372036854775807) ∧ ∀ x ∈ out, -x ∉ out
section
variable {v x : Int} {L out : List Int} {i : Nat}
theorem RInv.zero (v : Int) (L : List Int) : RInv v L [] 0 := ⟨Nat.zero_le _, by rw [List.drop_zero], Nat.le_refl _, fun x hx => (List.not_mem_nil hx).elim, fun x hx => (List.not_mem_nil hx).elim⟩
theorem RInv.skip (h : RInv v L out i) (hi : i < L.length) (hx : L.getD i 0 = x) (h2 : av x = v ∨ x ∈ out) : RInv v L out (i + 1) := by
  subst hx
  exact ⟨hi, h.2.1.trans (resGo_skip hi h2), Nat.le_succ_of_le h.2.2.1, h.2.2.2.1, h.2.2.2.2⟩
theorem RInv.none (h : RInv v L out i) (hi : i < L.length) (hx : L.getD i 0 = x) (h1 : av x ≠ v) (h2 : -x ∈ out) : resGo v [] L = Option.none := by
  subst hx
  refine h.2.1.trans (resGo_none hi (fun h3 => ?_) h2)
  rcases h3 with h3 | h3
  · exact h1 h3
  · exact h.2.2.2.2 _ h3 h2
theorem RInv.add (h : RInv v L out i) (hi : i < L.length) (hx : L.getD i 0 = x) (hr : -9223372036854775808 < x ∧ x ≤ 9223372036854775807) (h0 : x ≠ 0) (h1 : av x ≠ v) (h2 : -x ∉ out) (h3 : x ∉ out) : RInv v L (out ++ [x]) (i + 1) := by
  subst hx
  refine ⟨hi, h.2.1.trans (resGo_add hi (fun h4 => h4.elim h1 h3) h2), by rw [List.length_append]; exact Nat.succ_le_succ h.2.2.1, fun y hy => ?_, fun y hy hy2 => ?_⟩
  · rcases List.mem_append.1 hy with hy | hy
    · exact h.2.2.2.1 y hy
    · rw [List.mem_singleton.1 hy]; exact hr
  · rcases List.mem_append.1 hy with hy | hy
    · rcases List.mem_append.1 hy2 with hy2 | hy2
      · exact h.2.2.2.2 y hy hy2
      · have := List.mem_singleton.1 hy2
        exact h2 (by rw [← this, Int.neg_neg]; exact hy)
    · have e := List.mem_singleton.1 hy
      rw [e] at hy2
      rcases List.mem_append.1 hy2 with hy2 | hy2
      · exact h2 hy2
      · have := List.mem_singleton.1 hy2
        omega
theorem RInv.fin (h : RInv v L out i) (hi : L.length ≤ i) : resGo v [] L = Option.some out := h.2.1.trans (resGo_end hi)
theorem res2_form {a b : List Int} (h : v ∉ a ∨ -v ∉ b) : res2 a b v = ([], 5) := by rw [res2, if_pos h]
theorem res2_none {a b : List Int} (h : ¬ (v ∉ a ∨ -v ∉ b)) (h2 : resGo v [] (a ++ b) = Option.none) : res2 a b v = ([], 7) := by rw [res2, if_neg h, resolve, h2]; rfl
theorem res2_some {a b out : List Int} (h : ¬ (v ∉ a ∨ -v ∉ b)) (h2 : resGo v [] (a ++ b) = Option.some out) : res2 a b v = (litSort out, 0) := by rw [res2, if_neg h, resolve, h2]; rfl
theorem app_lo {a b : List Int} (h : i < a.length) : (a ++ b).getD i 0 = a.getD i 0 := getD_app0 0 h
theorem app_hi {a b : List Int} (h : a.length ≤ i) : (a ++ b).getD i 0 = b.getD ((i : Int) - a.length).toNat 0 := by
  rw [getD_app1 0 h, show ((i : Int) - a.length).toNat = i - a.length by omega]
end

/-! ### What a proof tells, of one assignment -/
theorem map_get (P : List Prd) (x : List Bool) (j : Nat) : (P.map fun p => p x).getD j false = (P.getD j pf) x := by
  rw [List.getD_eq_getElem?_getD, List.getD_eq_getElem?_getD, List.getElem?_map]
  cases P[j]? <;> rfl
def fstT (e : Bool) (b : List (List Int)) (x : List Bool) (c : List Int) (j : Nat) : Bool := !e && (c.take j).any fun y => occ b (av y) && lit x y
theorem fst_end {e : Bool} {b : List (List Int)} {x : List Bool} {c : List Int} {j : Nat} (h : ¬ ((j : Int) < c.length ∧ e = false)) : fstT e b x c j = sysF e b c x := by
  cases e with
  | true => rfl
  | false =>
    show (true && _) = c.any _
    rw [List.take_of_length_le (by have : ¬ ((j : Int) < c.length) := fun h2 => h ⟨h2, rfl⟩; omega)]
    rfl
theorem fst_step {e : Bool} {b : List (List Int)} {x : List Bool} {c : List Int} {j : Nat} (hj : j < c.length) : fstT e b x c (j + 1) = (fstT e b x c j || (!e && (occ b (av (c.getD j 0)) && lit x (c.getD j 0)))) := by
  unfold fstT
  rw [take_getD c j 0 hj, List.any_append]
  cases e <;> simp
section
variable {e : Bool} {a b : List (List Int)} {P : List Prd} {r : Rs} {x : List Bool}
theorem prt_or (h : occ b r.2.2 = false) : ((P.map fun p => p x).getD r.1.toNat false || (P.map fun p => p x).getD r.2.1.toNat false) = prtS e a b P r x := by
  rw [map_get, map_get, prtS, sysB]
  cases e
  · simp [h]
  · simp [puB, h]
theorem prt_and (h : occ b r.2.2 = true) (h2 : e = false ∨ occ a r.2.2 = false) : ((P.map fun p => p x).getD r.1.toNat false && (P.map fun p => p x).getD r.2.1.toNat false) = prtS e a b P r x := by
  rw [map_get, map_get, prtS, sysB]
  cases e
  · simp [h]
  · rcases h2 with h2 | h2
    · cases h2
    · simp [puB, h, h2]
theorem prt_hi (h : occ b r.2.2 = true) (h2 : ¬ (e = false ∨ occ a r.2.2 = false)) (h3 : x.getD (r.2.2 - 1).toNat false = true) : (P.map fun p => p x).getD r.2.1.toNat false = prtS e a b P r x := by
  rw [map_get, prtS, sysB]
  cases e
  · exact absurd (.inl rfl) h2
  · have h4 : occ a r.2.2 = true := by simpa using fun h => h2 (.inr h)
    simp only [if_true]
    rw [puB, if_neg (by rw [h]; decide), if_neg (by rw [h4]; decide), if_pos h3]
theorem prt_lo (h : occ b r.2.2 = true) (h2 : ¬ (e = false ∨ occ a r.2.2 = false)) (h3 : x.getD (r.2.2 - 1).toNat false = false) : (P.map fun p => p x).getD r.1.toNat false = prtS e a b P r x := by
  rw [map_get, prtS, sysB]
  cases e
  · exact absurd (.inl rfl) h2
  · have h4 : occ a r.2.2 = true := by simpa using fun h => h2 (.inr h)
    simp only [if_true]
    rw [puB, if_neg (by rw [h]; decide), if_neg (by rw [h4]; decide), if_neg (by rw [h3]; decide)]
end

theorem prt_snoc {e : Bool} {a b : List (List Int)} {l : List Rs} {x : List Bool} {i : Nat} {y : Bool} (hi : i < l.length) (h : y = prtS e a b (prtTo e a b l i) (l.getD i (0, 0, 0)) x) : ((prtTo e a b l (i + 1)).map fun p => p x) = ((prtTo e a b l i).map fun p => p x) ++ [y] := by
  rw [prtTo_succ hi, List.map_append, h]
  rfl
theorem resR_all {n : Int} {g : List (List Int)} {l : List Rs} (h : (resR n g l).2.1 = 0) : (resR n g l).1.length = l.length := by
  obtain ⟨h1, h2, h3⟩ := resR_ok h
  rw [h3]
  show ((resTo n g l l.length).drop g.length).length = _
  rw [List.length_drop, resTo_len _ (Nat.le_refl _)]
  omega
theorem resR_len (n : Int) (g : List (List Int)) (l : List Rs) : (resR n g l).1.length ≤ 2000 := by
  by_cases h : (resR n g l).2.1 = 0
  · rw [resR_all h]
    exact (resR_ok h).1
  · unfold resR at h ⊢
    by_cases h1 : 2000 < l.length
    · rw [if_pos h1]; simp
    · rw [if_neg h1] at h ⊢
      by_cases h2 : (resF n g 0 l).1 ≠ 0
      · rw [if_pos h2]; simp
      · rw [if_neg h2] at h; exact absurd rfl h
section
variable {n m : Int} {a b : List (List Int)} {l : List Rs} {L : Nat}
theorem prf_state (hb : (betW n a m b).1 = 0) (hL : L = (resR n (a ++ b) l).1.length) (h : (resR n (a ++ b) l).2.1 = 0 ∧ ((L : Int) = 0 ∨ (0 : Int) < ((resR n (a ++ b) l).1.getD ((L : Int) - 1).toNat []).length)) : prfW n a m b l = (11, 0) := by
  have e := resR_all h.1
  rw [prfW, if_neg (fun h2 => h2 hb), if_neg (fun h2 => h2 h.1), if_pos]
  rw [hL, e] at h
  rw [show ((l.length : Int) - 1).toNat = l.length - 1 by omega] at h
  omega
theorem prf_else (hb : (betW n a m b).1 = 0) (hL : L = (resR n (a ++ b) l).1.length) (h : ¬ ((resR n (a ++ b) l).2.1 = 0 ∧ ((L : Int) = 0 ∨ (0 : Int) < ((resR n (a ++ b) l).1.getD ((L : Int) - 1).toNat []).length))) : prfW n a m b l = (resR n (a ++ b) l).2 := by
  rw [prfW, if_neg (fun h2 => h2 hb)]
  by_cases h2 : (resR n (a ++ b) l).2.1 = 0
  · have e := resR_all h2
    rw [if_neg (fun h3 => h3 h2), if_neg]
    · obtain ⟨_, _, h3⟩ := resR_ok h2
      rw [h3]
    · rw [hL, e] at h
      rw [show ((l.length : Int) - 1).toNat = l.length - 1 by omega] at h
      omega
  · rw [if_pos h2]
end

/-! ### The example -/
def exA : List (List Int) := [[1], [-1, 2]]
def exB : List (List Int) := [[-2]]
def exL : List Rs := [(0, 1, 1), (3, 2, 2)]
theorem ex_bet : betW 2 exA 2 exB = (0, 0) := by
  have h1 : check 2 exA = (0, 0) := by simp [exA, check, checkFrom, wrong, wrongFrom, dup, Int.max_def]
  have h2 : check 2 exB = (0, 0) := by simp [exB, check, checkFrom, wrong, wrongFrom, dup, Int.max_def]
  rw [betW, h1, h2]
  decide
theorem ex_one : resOne (exA ++ exB) (0, 1, 1) 2 = ([2], 0) := by
  have h : resGo 1 [] ([1] ++ [-1, 2]) = Option.some [2] := by decide
  have h2 : resolve [1] [-1, 2] 1 = Option.some [2] := by rw [resolve, h]; show Option.some (litSort [2]) = _; rw [litSort_one]
  show res2 [1] [-1, 2] 1 = _
  rw [res2, h2, if_neg (by decide)]
  rfl
theorem ex_two : resOne (exA ++ exB ++ [[2]]) (3, 2, 2) 2 = ([], 0) := by
  have h : resGo 2 [] ([2] ++ [-2]) = Option.some [] := by decide
  have h2 : resolve [2] [-2] 2 = Option.some [] := by rw [resolve, h]; show Option.some (litSort []) = _; rw [litSort, List.mergeSort_nil]
  show res2 [2] [-2] 2 = _
  rw [res2, h2, if_neg (by decide)]
  rfl
theorem ex_res : resR 2 (exA ++ exB) exL = ([[2], []], 0, 0) := by
  have h : resF 2 (exA ++ exB) 0 exL = (0, 0) := by
    show resF 2 (exA ++ exB) 0 [(0, 1, 1), (3, 2, 2)] = _
    rw [resF, ex_one, if_neg (by decide), resF, ex_two, if_neg (by decide)]
    rfl
  have h2 : resTo 2 (exA ++ exB) exL exL.length = exA ++ exB ++ [[2]] ++ [[]] := by
    show ([(0, 1, 1), (3, 2, 2)] : List Rs).foldl _ _ = _
    simp only [List.foldl_cons, List.foldl_nil]
    rw [ex_one]
    show exA ++ exB ++ [[2]] ++ [(resOne (exA ++ exB ++ [[2]]) (3, 2, 2) 2).1] = _
    rw [ex_two]
  rw [resR, if_neg (by decide), h, if_neg (by decide), h2]
  rfl
theorem ex_prf : prfW 2 exA 2 exB exL = (0, 0) := by
  rw [prfW, ex_bet, ex_res, if_neg (by decide), if_neg (by decide), if_neg (by decide)]
theorem ex_tab (e : Bool) : dtab (lastP e exA exB exL) 2 = [false, true, false, true] := by
  cases e <;> decide
theorem ex_grow : grow 2 [] [false, true, false, true] 1 = ([(2, 0, 1)], 2) := by decide
theorem ex_tak (e : Bool) : takO e 2 exA 2 exB exL = ([(2, 0, 1)], 2, 0, 0) := by
  rw [(tak_good (by rw [ex_prf])).1]
  show diaBuilt 2 (dtab (lastP e exA exB exL) 2) = _
  rw [ex_tab, built_few (by decide), ex_grow]

theorem last_get {k : Nat} {a b : List (List Int)} {l : List Rs} (h : Prf k a b l) (e : Bool) (x : List Bool) {L : Nat} (hL : L = (((prtTo e a b l l.length).map fun p => p x).length)) : ((prtTo e a b l l.length).map fun p => p x).getD ((L : Int) - 1).toNat false = lastP e a b l x := by
  rw [map_get, lastP]
  have h1 := prtTo_len (e := e) (a := a) (b := b) (l := l) l.length (Nat.le_refl _)
  rw [List.length_map] at hL
  rw [show ((L : Int) - 1).toNat = a.length + b.length + l.length - 1 by omega]
end Sp
end Go.Um
