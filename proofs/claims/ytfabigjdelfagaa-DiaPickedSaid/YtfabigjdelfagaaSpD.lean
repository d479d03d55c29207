/- Plain law: laws of diagrams, by their tables. No program in sight. No condition. -/
import Derived.Test.YtfabigjdelfagaaSpC
namespace Go.Um
namespace Sp

/-- What is built of a table of few variables. -/
def bd (m : Nat) (t : List Bool) : DF := ((grow m [] t 1).1, (grow m [] t 1).2, 0, 0)
theorem bd_ok {m : Nat} (t : List Bool) (h8 : m ≤ 8) : diaCheck m (bd m t).1 (bd m t).2.1 = (0, 0) := built_ok t h8
theorem bd_tab {m : Nat} {t : List Bool} (ht : t.length = 2 ^ m) : tabOf m (bd m t).1 (bd m t).2.1 = t := built_tab ht
theorem bd_canon {m : Nat} {l : List Cho} {r : Int} (h : (diaCheck m l r).1 = 0) : bd m (tabOf m l r) = (l, r, 0, 0) := by rw [bd, canon h]
theorem tab_d (m : Nat) (l : List Cho) (r : Int) : tabOf m l r = dtab (dvalue l r) m := by rw [tabOf, Int.toNat_natCast]

def someT (m : Nat) (v : Int) (t : List Bool) : List Bool := (List.range (2 ^ m)).map fun (k : Nat) => t.getD k false || t.getD (k ^^^ 2 ^ (m - v.toNat)) false
theorem someT_len (m : Nat) (v : Int) (t : List Bool) : (someT m v t).length = 2 ^ m := by simp [someT]
theorem someT_get {m : Nat} (v : Int) (t : List Bool) {k : Nat} (h : k < 2 ^ m) : (someT m v t).getD k false = (t.getD k false || t.getD (k ^^^ 2 ^ (m - v.toNat)) false) := by
  rw [List.getD_eq_getElem?_getD, List.getElem?_eq_getElem (by rw [someT_len]; exact h)]; simp [someT]

theorem not_bd {m : Nat} {l : List Cho} {r : Int} (h : (diaCheck m l r).1 = 0) (h8 : m ≤ 8) : diaNot m l r = bd m ((tabOf m l r).map fun b => !b) := by
  rw [diaNot, if_neg (fun hh => hh h), Int.toNat_natCast, built_few h8, tab_d, bd]
  simp only [dtab, List.map_map, Function.comp_def]
theorem both_bd {m : Nat} {op : Int} {l l' : List Cho} {r r' : Int} (h : (diaCheck m l r).1 = 0) (h' : (diaCheck m l' r').1 = 0) (ho : 0 ≤ op ∧ op ≤ 15) (h8 : m ≤ 8) : diaBoth m op l r l' r' = bd m (List.zipWith (comb op) (tabOf m l r) (tabOf m l' r')) := by
  rw [diaBoth, if_neg (fun hh => hh h), if_neg (fun hh => hh h'), if_neg (by omega), Int.toNat_natCast, built_few h8, tab_d, tab_d, bd]
  simp only [dtab, List.zipWith_map, List.zipWith_self]
theorem some_bd {m : Nat} {l : List Cho} {r v : Int} (h : (diaCheck m l r).1 = 0) (hv : 1 ≤ v ∧ v ≤ m) (h8 : m ≤ 8) : diaSome m l r v = bd m (someT m v (tabOf m l r)) := by
  rw [diaSome, if_neg (fun hh => hh h), if_neg (by omega), Int.toNat_natCast, built_few h8, tab_d, bd]
  have e : dtab (some2 (dvalue l r) v) m = someT m v (dtab (dvalue l r) m) := by
    refine eq_of_getD (z := false) (i := 2 ^ m) (by rw [dtab_len, someT_len]) (by rw [dtab_len]; exact Nat.le_refl _) (fun k hk => ?_)
    have hx := xor_lt (n := m) (i := k) (v := v.toNat) hk (by omega) (by omega)
    rw [dtab_at _ _ _ hk, someT_get _ _ hk, dtab_at _ _ _ hk, dtab_at _ _ _ hx]
    have := some_xor (dvalue l r) (n := m) (i := k) hv
    unfold b01 at this
    cases h1 : some2 (dvalue l r) v (bits m k) <;> cases h2 : (dvalue l r (bits m k) || dvalue l r (bits m ((k ^^^ 2 ^ (m - v.toNat) : Nat) : Int))) <;> rw [h1, h2] at this <;> first | rfl | (exfalso; revert this; decide)
  rw [e]

theorem not_code {n : Int} {l : List Cho} {r : Int} (h : (diaNot n l r).2.2.1 ≠ 0) : (diaNot n l r).1 = [] ∧ (diaNot n l r).2.1 = 0 := by
  unfold diaNot diaBuilt at h ⊢
  split
  · exact ⟨rfl, rfl⟩
  · split
    · exact ⟨rfl, rfl⟩
    · rename_i h1 h2
      rw [if_neg h1, if_neg h2] at h
      exact absurd rfl h
theorem not_ok {n : Int} {l : List Cho} {r : Int} (h : (diaNot n l r).2.2.1 = 0) : (diaCheck n l r).1 = 0 := by
  refine Classical.byContradiction fun hn => hn ?_
  rw [diaNot, if_pos hn] at h
  exact h
theorem some_code {n : Int} {l : List Cho} {r v : Int} (h : (diaSome n l r v).2.2.1 ≠ 0) : (diaSome n l r v).1 = [] ∧ (diaSome n l r v).2.1 = 0 := by
  unfold diaSome diaBuilt at h ⊢
  split
  · exact ⟨rfl, rfl⟩
  · split
    · exact ⟨rfl, rfl⟩
    · split
      · exact ⟨rfl, rfl⟩
      · rename_i h1 h2 h3
        rw [if_neg h1, if_neg h2, if_neg h3] at h
        exact absurd rfl h
theorem some_ok {n : Int} {l : List Cho} {r v : Int} (h : (diaSome n l r v).2.2.1 = 0) : (diaCheck n l r).1 = 0 ∧ 1 ≤ v ∧ v ≤ n := by
  by_cases h1 : (diaCheck n l r).1 = 0
  · refine ⟨h1, ?_⟩
    rw [diaSome, if_neg (fun hh => hh h1)] at h
    by_cases h2 : v < 1 ∨ n < v
    · rw [if_pos h2] at h; exact absurd h (by decide)
    · omega
  · rw [diaSome, if_pos h1] at h; exact absurd h h1

theorem cnt_both (t : List Bool) : cnt t + cnt (t.map fun b => !b) = t.length := by
  induction t with
  | nil => rfl
  | cons b t ih =>
    unfold cnt at ih ⊢
    cases b <;> simp at ih ⊢ <;> omega
theorem count_is {m : Nat} {l : List Cho} {r : Int} (h : (diaCheck m l r).1 = 0) : diaCount m l r = ((cnt (tabOf m l r) : Int), (0, 0)) := by
  rw [diaCount, if_neg (fun hh => hh h)]
theorem zipmap_len {m : Nat} (op : Int) {t t' : List Bool} (h : t.length = 2 ^ m) (h' : t'.length = 2 ^ m) : (List.zipWith (comb op) t t').length = 2 ^ m := by
  rw [List.length_zipWith, h, h', Nat.min_self]

/-- DE MORGAN. -/
theorem morgan {m : Nat} {l l' : List Cho} {r r' : Int} (h8 : m ≤ 8) (h : (diaCheck m l r).1 = 0) (h' : (diaCheck m l' r').1 = 0) {X Y W : DF} (hX : diaNot m l r = X) (hY : diaNot m l' r' = Y) (hW : diaBoth m 8 l r l' r' = W) :
    X.2.2.1 = 0 ∧ W.2.2.1 = 0 ∧ (diaBoth m 14 X.1 X.2.1 Y.1 Y.2.1).2.2.1 = 0 ∧ (diaNot m W.1 W.2.1).2.2.1 = 0 ∧ (diaNot m X.1 X.2.1).2.2.1 = 0 ∧ (diaCount m l r).2.1 = 0 ∧ (diaCount m X.1 X.2.1).2.1 = 0 ∧
    diaBoth m 14 X.1 X.2.1 Y.1 Y.2.1 = diaNot m W.1 W.2.1 ∧ ((diaNot m X.1 X.2.1).1 = l ∧ (diaNot m X.1 X.2.1).2.1 = r) ∧ (diaCount m l r).1 + (diaCount m X.1 X.2.1).1 = ((2 ^ m : Nat) : Int) ∧ (0 ≤ (diaCount m l r).1 ∧ 0 ≤ (diaCount m X.1 X.2.1).1) := by
  rw [not_bd h h8] at hX
  rw [not_bd h' h8] at hY
  rw [both_bd h h' (by decide) h8] at hW
  have l1 := tab_len m l r
  have l2 := tab_len m l' r'
  generalize hT : tabOf m l r = T at hX hW l1
  generalize hT' : tabOf m l' r' = T' at hY hW l2
  subst hX hY hW
  have n1 : (T.map fun b => !b).length = 2 ^ m := by rw [List.length_map]; exact l1
  have n2 : (T'.map fun b => !b).length = 2 ^ m := by rw [List.length_map]; exact l2
  have o1 : (diaCheck m (bd m (T.map fun b => !b)).1 (bd m (T.map fun b => !b)).2.1).1 = 0 := by rw [bd_ok _ h8]
  have o2 : (diaCheck m (bd m (T'.map fun b => !b)).1 (bd m (T'.map fun b => !b)).2.1).1 = 0 := by rw [bd_ok _ h8]
  have o3 : (diaCheck m (bd m (List.zipWith (comb 8) T T')).1 (bd m (List.zipWith (comb 8) T T')).2.1).1 = 0 := by rw [bd_ok _ h8]
  have e1 := both_bd (op := 14) o1 o2 (by decide) h8
  rw [bd_tab n1, bd_tab n2] at e1
  have e2 := not_bd o3 h8
  rw [bd_tab (zipmap_len 8 l1 l2)] at e2
  have e3 := not_bd o1 h8
  rw [bd_tab n1, List.map_map] at e3
  have e4 : ((fun b : Bool => !b) ∘ fun b => !b) = id := by funext b; cases b <;> rfl
  have e6 : bd m T = (l, r, 0, 0) := by rw [← hT]; exact bd_canon h
  rw [e4, List.map_id, e6] at e3
  have e5 : List.zipWith (comb 14) (T.map fun b => !b) (T'.map fun b => !b) = (List.zipWith (comb 8) T T').map fun b => !b := by
    rw [List.zipWith_map, List.map_zipWith]
    congr 1
    funext a b
    cases a <;> cases b <;> decide
  have c1 := count_is h
  have c2 := count_is o1
  rw [bd_tab n1] at c2
  rw [hT] at c1
  have c3 := cnt_both T
  rw [e1, e2, e3, c1, c2, e5]
  refine ⟨rfl, rfl, rfl, rfl, rfl, rfl, rfl, rfl, ⟨rfl, rfl⟩, ?_, ?_, ?_⟩
  · show (cnt T : Int) + (cnt (T.map fun b => !b) : Int) = _
    omega
  · show (0 : Int) ≤ (cnt T : Int); omega
  · show (0 : Int) ≤ (cnt (T.map fun b => !b) : Int); omega

theorem zip_get {m : Nat} (op : Int) {t t' : List Bool} (h : t.length = 2 ^ m) (h' : t'.length = 2 ^ m) {k : Nat} (hk : k < 2 ^ m) : (List.zipWith (comb op) t t').getD k false = comb op (t.getD k false) (t'.getD k false) := by
  rw [List.getD_eq_getElem?_getD, List.getElem?_eq_getElem (by rw [zipmap_len op h h']; exact hk), List.getElem_zipWith]
  simp [List.getD_eq_getElem?_getD, List.getElem?_eq_getElem (show k < t.length by omega), List.getElem?_eq_getElem (show k < t'.length by omega)]
theorem or_comb (a b : Bool) : comb 14 a b = (a || b) := by cases a <;> cases b <;> decide
theorem less_comb (a b : Bool) : comb 4 a b = (a && !b) := by cases a <;> cases b <;> decide
theorem grow_none : ∀ (m : Nat) (l : List Cho) (v : Int), grow m l (List.replicate (2 ^ m) false) v = (l, 0)
  | 0, l, v => rfl
  | m + 1, l, v => by
    have hp : 2 ^ (m + 1) = 2 ^ m + 2 ^ m := by rw [Nat.pow_succ]; omega
    have hp0 : 0 < 2 ^ m := Nat.two_pow_pos m
    have e1 : (List.replicate (2 ^ (m + 1)) false).take (2 ^ m) = List.replicate (2 ^ m) false := by rw [List.take_replicate, Nat.min_eq_left (by omega)]
    have e2 : ((List.replicate (2 ^ (m + 1)) false).drop (2 ^ m)).take ((List.replicate (2 ^ (m + 1)) false).length - 2 ^ m) = List.replicate (2 ^ m) false := by
      rw [List.drop_replicate, List.take_replicate, List.length_replicate, Nat.min_self]; congr 1; omega
    rw [grow_step (A := (l, 0)) (B := (l, 0)) (by rw [e1]; exact grow_none m l _) (by rw [e2]; exact grow_none m l _)]
    simp [growJ]
theorem bd_none {m : Nat} {t : List Bool} (ht : t.length = 2 ^ m) (h : ∀ k, k < 2 ^ m → t.getD k false = false) : bd m t = ([], 0, 0, 0) := by
  have e : t = List.replicate (2 ^ m) false := by
    refine eq_of_getD (z := false) (i := 2 ^ m) (by simp [ht]) (by omega) (fun k hk => ?_)
    rw [h k hk, List.getD_eq_getElem?_getD, List.getElem?_replicate, if_pos hk]; rfl
  rw [bd, e, grow_none]

/-- BOOLE. -/
theorem quant {m : Nat} {l l' : List Cho} {r r' v : Int} (h8 : m ≤ 8) (hv : 1 ≤ v ∧ v ≤ m) (h : (diaCheck m l r).1 = 0) (h' : (diaCheck m l' r').1 = 0) {X Y W : DF} (hX : diaSome m l r v = X) (hY : diaSome m l' r' v = Y) (hW : diaBoth m 14 l r l' r' = W) :
    W.2.2.1 = 0 ∧ (diaSome m W.1 W.2.1 v).2.2.1 = 0 ∧ (diaBoth m 14 X.1 X.2.1 Y.1 Y.2.1).2.2.1 = 0 ∧ (diaBoth m 4 l r X.1 X.2.1).2.2.1 = 0 ∧ (diaSome m X.1 X.2.1 v).2.2.1 = 0 ∧
    diaSome m W.1 W.2.1 v = diaBoth m 14 X.1 X.2.1 Y.1 Y.2.1 ∧ diaBoth m 4 l r X.1 X.2.1 = ([], 0, 0, 0) ∧ diaSome m X.1 X.2.1 v = X := by
  rw [some_bd h hv h8] at hX
  rw [some_bd h' hv h8] at hY
  rw [both_bd h h' (by decide) h8] at hW
  have l1 := tab_len m l r
  have l2 := tab_len m l' r'
  generalize hT : tabOf m l r = T at hX hW l1
  generalize hT' : tabOf m l' r' = T' at hY hW l2
  subst hX hY hW
  have s1 := someT_len m v T
  have s2 := someT_len m v T'
  have z1 := zipmap_len 14 l1 l2
  have o1 : (diaCheck m (bd m (someT m v T)).1 (bd m (someT m v T)).2.1).1 = 0 := by rw [bd_ok _ h8]
  have o2 : (diaCheck m (bd m (someT m v T')).1 (bd m (someT m v T')).2.1).1 = 0 := by rw [bd_ok _ h8]
  have o3 : (diaCheck m (bd m (List.zipWith (comb 14) T T')).1 (bd m (List.zipWith (comb 14) T T')).2.1).1 = 0 := by rw [bd_ok _ h8]
  have e1 := some_bd o3 hv h8
  rw [bd_tab z1] at e1
  have e2 := both_bd (op := 14) o1 o2 (by decide) h8
  rw [bd_tab s1, bd_tab s2] at e2
  have e3 := both_bd (op := 4) h o1 (by decide) h8
  rw [bd_tab s1, hT] at e3
  have e4 := some_bd o1 hv h8
  rw [bd_tab s1] at e4
  have hx : ∀ k, k < 2 ^ m → k ^^^ 2 ^ (m - v.toNat) < 2 ^ m := fun k hk => xor_lt hk (by omega) (by omega)
  have q1 : someT m v (List.zipWith (comb 14) T T') = List.zipWith (comb 14) (someT m v T) (someT m v T') := by
    refine eq_of_getD (z := false) (i := 2 ^ m) (by rw [someT_len, zipmap_len 14 s1 s2]) (by rw [someT_len]; exact Nat.le_refl _) (fun k hk => ?_)
    rw [someT_get _ _ hk, zip_get 14 l1 l2 hk, zip_get 14 l1 l2 (hx k hk), zip_get 14 s1 s2 hk, someT_get _ _ hk, someT_get _ _ hk]
    simp only [or_comb]
    generalize T.getD k false = a
    generalize T'.getD k false = b
    generalize T.getD (k ^^^ 2 ^ (m - v.toNat)) false = c
    generalize T'.getD (k ^^^ 2 ^ (m - v.toNat)) false = d
    cases a <;> cases b <;> cases c <;> cases d <;> rfl
  have q2 : bd m (List.zipWith (comb 4) T (someT m v T)) = ([], 0, 0, 0) := by
    refine bd_none (zipmap_len 4 l1 s1) (fun k hk => ?_)
    rw [zip_get 4 l1 s1 hk, someT_get _ _ hk, less_comb]
    generalize T.getD k false = a
    generalize T.getD (k ^^^ 2 ^ (m - v.toNat)) false = c
    cases a <;> cases c <;> rfl
  have q3 : someT m v (someT m v T) = someT m v T := by
    refine eq_of_getD (z := false) (i := 2 ^ m) (by rw [someT_len, someT_len]) (by rw [someT_len]; exact Nat.le_refl _) (fun k hk => ?_)
    rw [someT_get _ _ hk, someT_get _ _ hk, someT_get _ _ (hx k hk), Nat.xor_assoc, Nat.xor_self, Nat.xor_zero]
    generalize T.getD k false = a
    generalize T.getD (k ^^^ 2 ^ (m - v.toNat)) false = c
    cases a <;> cases c <;> rfl
  rw [e1, e2, e3, e4, q1, q2, q3]
  exact ⟨rfl, rfl, rfl, rfl, rfl, rfl, rfl, rfl⟩

/-! ### What is picked -/
theorem none_of {m : Nat} {l : List Cho} {r : Int} (h : (diaCheck m l r).1 = 0) (hc : cnt (tabOf m l r) = 0) : l = [] ∧ r = 0 := by
  have hl := tab_len m l r
  have e := bd_canon h
  have hz : ∀ k, k < 2 ^ m → (tabOf m l r).getD k false = false := by
    intro k hk
    cases hb : (tabOf m l r).getD k false with
    | false => rfl
    | true =>
      exfalso
      have hm : true ∈ (tabOf m l r).filter id := List.mem_filter.2 ⟨by rw [← hb]; exact getD_mem _ k false (by omega), rfl⟩
      unfold cnt at hc
      have := List.eq_nil_of_length_eq_zero hc
      rw [this] at hm
      cases hm
  rw [bd_none hl hz] at e
  simp only [Prod.mk.injEq] at e
  exact ⟨e.1.symm, e.2.1.symm⟩
theorem trs_lt {t : List Bool} {p q : Nat} (h : p < q) (hq : q < (trs t).length) : (trs t).getD p 0 < (trs t).getD q 0 := by
  have hp : List.Pairwise (· < ·) (trs t) := by
    unfold trs trsTo
    rw [List.pairwise_map]
    refine (List.Pairwise.filter _ List.pairwise_lt_range).imp (fun {a b} hab => by omega)
  rw [List.getD_eq_getElem?_getD, List.getD_eq_getElem?_getD, List.getElem?_eq_getElem hq, List.getElem?_eq_getElem (by omega)]
  exact List.pairwise_iff_getElem.1 hp p q (by omega) hq h
theorem test_big {m x j : Nat} (hx : x < 2 ^ m) (h : m ≤ j) : x.testBit j = false := Nat.testBit_lt_two_pow (Nat.lt_of_lt_of_le hx (Nat.pow_le_pow_right (by decide) h))
theorem lt_test {x y : Nat} (i : Nat) (hx : x.testBit i = false) (hy : y.testBit i = true) (hj : ∀ j, i < j → x.testBit j = y.testBit j) : x < y := by
  have e : x / 2 ^ (i + 1) = y / 2 ^ (i + 1) := by
    apply Nat.eq_of_testBit_eq
    intro j
    rw [Nat.testBit_div_two_pow, Nat.testBit_div_two_pow]
    exact hj _ (by omega)
  rw [Nat.pow_succ, ← Nat.div_div_eq_div_mul, ← Nat.div_div_eq_div_mul] at e
  rw [Nat.testBit_eq_decide_div_mod_eq] at hx hy
  simp only [decide_eq_false_iff_not, decide_eq_true_eq] at hx hy
  refine Classical.byContradiction fun h => ?_
  have := Nat.div_le_div_right (c := 2 ^ i) (Nat.le_of_not_lt h)
  omega
theorem lex {m x y v : Nat} (hx : x < 2 ^ m) (hy : y < 2 ^ m) (hv : v < m) (he : ∀ j, j < v → (bits m x).getD j false = (bits m y).getD j false) (hn : (bits m x).getD v false ≠ (bits m y).getD v false) : (bits m y).getD v false = decide (x < y) := by
  rw [bits_get hv, bits_get hv] at hn
  rw [bits_get hv]
  have hj : ∀ j, m - 1 - v < j → x.testBit j = y.testBit j := by
    intro j hj
    by_cases h : j < m
    · have := he (m - 1 - j) (by omega)
      rw [bits_get (by omega), bits_get (by omega), show m - 1 - (m - 1 - j) = j by omega] at this
      exact this
    · rw [test_big hx (by omega), test_big hy (by omega)]
  cases h1 : y.testBit (m - 1 - v) with
  | true =>
    have h2 : x.testBit (m - 1 - v) = false := by cases h3 : x.testBit (m - 1 - v) with | false => rfl | true => exact absurd (h3.trans h1.symm) hn
    exact (decide_eq_true (lt_test _ h2 h1 hj)).symm
  | false =>
    have h2 : x.testBit (m - 1 - v) = true := by cases h3 : x.testBit (m - 1 - v) with | true => rfl | false => exact absurd (h3.trans h1.symm) hn
    have := lt_test _ h1 h2 (fun j h => (hj j h).symm)
    exact (decide_eq_false (by omega)).symm
theorem bits_inj {m x y : Nat} (hx : x < 2 ^ m) (hy : y < 2 ^ m) (he : ∀ j, j < m → (bits m x).getD j false = (bits m y).getD j false) : x = y := by
  apply Nat.eq_of_testBit_eq
  intro j
  by_cases h : j < m
  · have := he (m - 1 - j) (by omega)
    rw [bits_get (by omega), bits_get (by omega), show m - 1 - (m - 1 - j) = j by omega] at this
    exact this
  · rw [test_big hx (by omega), test_big hy (by omega)]
theorem pick_is {m : Nat} {l : List Cho} {r p : Int} (h : (diaCheck m l r).1 = 0) (hp : 0 ≤ p ∧ p < (cnt (tabOf m l r) : Int)) : ∃ x : Nat, x < 2 ^ m ∧ (trs (tabOf m l r)).getD p.toNat 0 = (x : Int) ∧ diaPick m l r p = (bits m x, (0, 0)) ∧ diaValue m l r (bits m x) = (true, (0, 0)) := by
  have hlt : p.toNat < (trs (tabOf m l r)).length := by rw [trs_len]; omega
  have hm := getD_mem (trs (tabOf m l r)) p.toNat 0 hlt
  have hr := trs_range _ _ hm
  have ht := trs_true _ _ hm
  rw [tab_len] at hr
  obtain ⟨x, hx⟩ : ∃ x : Nat, (trs (tabOf m l r)).getD p.toNat 0 = (x : Int) := ⟨((trs (tabOf m l r)).getD p.toNat 0).toNat, by omega⟩
  rw [hx] at hr ht
  have hx2 : x < 2 ^ m := by omega
  rw [Int.toNat_natCast, tab_d, dtab_at _ _ _ hx2] at ht
  refine ⟨x, hx2, hx, ?_, ?_⟩
  · rw [diaPick, if_neg (fun hh => hh h), if_pos hp, Int.toNat_natCast, hx]
  · rw [diaValue, if_neg (fun hh => hh h), if_neg (by rw [bits_length]; exact fun h => h rfl), ht]
theorem pick_lt {m : Nat} {l : List Cho} {r p q : Int} {x y : Nat} (hp : 0 ≤ p ∧ p < (cnt (tabOf m l r) : Int)) (hq : 0 ≤ q ∧ q < (cnt (tabOf m l r) : Int)) (hx : (trs (tabOf m l r)).getD p.toNat 0 = (x : Int)) (hy : (trs (tabOf m l r)).getD q.toNat 0 = (y : Int)) : (x < y ↔ p < q) ∧ (x = y → p = q) := by
  have hl := trs_len (tabOf m l r)
  rcases Int.lt_trichotomy p q with h | h | h
  · have := trs_lt (t := tabOf m l r) (p := p.toNat) (q := q.toNat) (by omega) (by omega)
    rw [hx, hy] at this
    omega
  · subst h; rw [hx] at hy; omega
  · have := trs_lt (t := tabOf m l r) (p := q.toNat) (q := p.toNat) (by omega) (by omega)
    rw [hx, hy] at this
    omega
end Sp
end Go.Um
