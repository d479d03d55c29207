/- Walks of Go functions of this seat, each by its contract. No condition beyond what each theorem says. -/
import Derived.Test.YtfjafkocejoigaaGreatWCd3
import Derived.Test.YtfjafkocejoigaaGreatTp3
import Derived.Test.YtfjafkocejoigaaGreatBD
import Derived.Test.YtfjafkocejoigaaGreatProg
import Derived.KernelRfl
import Derived.Test.YtfjafkocejoigaaGreatQ
set_option maxRecDepth 4000
namespace Go.Um
open Go Go.RowKit

theorem wTop1_agg23 : IsAgg Go.Proofs.Tryz.prog 23 false := by unfold IsAgg; kernel_rfl
theorem wTop1_agg25 : IsAgg Go.Proofs.Tryz.prog 25 true := by unfold IsAgg; kernel_rfl
theorem wTop1_agg3 : IsAgg Go.Proofs.Tryz.prog 3 false := by unfold IsAgg; kernel_rfl
theorem wTop1_byt22 : Bytes Go.Proofs.Tryz.prog 22 24 := by unfold Bytes; kernel_rfl
theorem wTop1_byt3 : Bytes Go.Proofs.Tryz.prog 3 8 := by unfold Bytes; kernel_rfl
theorem wTop1_fld25_1 : IsField Go.Proofs.Tryz.prog 25 1 1 23 := by unfold IsField; kernel_rfl
theorem wTop1_fld29_0 : IsField Go.Proofs.Tryz.prog 29 0 0 3 := by unfold IsField; kernel_rfl
theorem wTop1_fld36_0 : IsField Go.Proofs.Tryz.prog 36 0 0 3 := by unfold IsField; kernel_rfl
theorem wTop1_isf11 : IsFn Go.Proofs.Tryz.prog 11 := by unfold IsFn; kernel_rfl
theorem wTop1_isf16 : IsFn Go.Proofs.Tryz.prog 16 := by unfold IsFn; kernel_rfl
theorem wTop1_isf47 : IsFn Go.Proofs.Tryz.prog 47 := by unfold IsFn; kernel_rfl
theorem wTop1_isf8 : IsFn Go.Proofs.Tryz.prog 8 := by unfold IsFn; kernel_rfl
theorem wTop1_isl22 : IsSlice Go.Proofs.Tryz.prog 22 3 := by unfold IsSlice; kernel_rfl
theorem wTop1_isl23 : IsSlice Go.Proofs.Tryz.prog 23 22 := by unfold IsSlice; kernel_rfl
theorem wTop1_mix : (Go.Proofs.Tryz.prog).follows .mixedOrders = true := by kernel_rfl
theorem wTop1_plc25 : Places Go.Proofs.Tryz.prog 25 [(0, 1), (1, 1)] := by unfold Places; kernel_rfl
theorem wTop1_plc40 : Places Go.Proofs.Tryz.prog 40 [(0, 1), (1, 1), (2, 1), (3, 1)] := by unfold Places; kernel_rfl
theorem wTop1_siz22 : Size Go.Proofs.Tryz.prog 22 1 := by unfold Size; kernel_rfl
theorem wTop1_siz23 : Size Go.Proofs.Tryz.prog 23 1 := by unfold Size; kernel_rfl
theorem wTop1_siz25 : Size Go.Proofs.Tryz.prog 25 2 := by unfold Size; kernel_rfl
theorem wTop1_siz29 : Size Go.Proofs.Tryz.prog 29 2 := by unfold Size; kernel_rfl
theorem wTop1_siz3 : Size Go.Proofs.Tryz.prog 3 1 := by unfold Size; kernel_rfl
theorem wTop1_siz36 : Size Go.Proofs.Tryz.prog 36 5 := by unfold Size; kernel_rfl
def wTop1_z25 : D := .cons (.int .i64 0) (.cons (intss []) (.nil))
theorem wTop1_zch25 : ∀ (ok : Nat → Prop) (w : World), R Go.Proofs.Tryz.prog wTop1_z25 ok w (Value.cells (.agg #[(.int .i64 0), (.slice none 0 0)])).toList := fun _ _ => z_int (z_list (z_nil))
def wTop1_z40 : D := .cons (.int .i64 0) (.cons (.int .i64 0) (.cons (.int .i64 0) (.cons (.int .i64 0) (.nil))))
theorem wTop1_zch40 : ∀ (ok : Nat → Prop) (w : World), R Go.Proofs.Tryz.prog wTop1_z40 ok w (Value.cells (.agg #[(.int .i64 0), (.int .i64 0), (.int .i64 0), (.int .i64 0)])).toList := fun _ _ => z_int (z_int (z_int (z_int (z_nil))))
theorem wTop1_zer22 : Zero Go.Proofs.Tryz.prog 22 (.slice none 0 0) := by unfold Zero; kernel_rfl
theorem wTop1_zer25 : Zero Go.Proofs.Tryz.prog 25 (.agg #[(.int .i64 0), (.slice none 0 0)]) := by unfold Zero; kernel_rfl
theorem wTop1_zer29 : Zero Go.Proofs.Tryz.prog 29 (.agg #[(.int .i64 0), (.int .i64 0)]) := by unfold Zero; kernel_rfl
theorem wTop1_zer3 : Zero Go.Proofs.Tryz.prog 3 (.int .i64 0) := by unfold Zero; kernel_rfl
theorem wTop1_zer36 : Zero Go.Proofs.Tryz.prog 36 (.agg #[(.int .i64 0), (.slice none 0 0), (.slice none 0 0), (.slice none 0 0), (.int .i64 0)]) := by unfold Zero; kernel_rfl
theorem wTop1_zer40 : Zero Go.Proofs.Tryz.prog 40 (.agg #[(.int .i64 0), (.int .i64 0), (.int .i64 0), (.int .i64 0)]) := by unfold Zero; kernel_rfl

theorem Picked_spec (a n : Int) (hn : 0 < n ∧ n ≤ 1000000) :
    Spec Go.Proofs.Tryz.prog 8 [iv a, iv n] (di (Sp.picked a n)) := by
  refine spec_of' Go.Proofs.Tryz.func8 rfl Go.Proofs.Tryz.ntmps8 rfl ?_
  refine f_seq (f_region (zm2 rfl rfl rfl (snil (f_seq (f_region (zm1 rfl rfl rfl (zm1 rfl rfl rfl ?_))))))); refine zq (p_rem rfl Zz Zz (by omega)) rfl (zm2 rfl rfl rfl (snil (f_seq (f_seq ?_))))
  have hr := Sp.tmod_rng a hn.1
  refine f_region (zm1 rfl rfl rfl ?_); refine zq (p_lss rfl Zz Zz) rfl (snil (f_cond rfl ?_ ?_))
  · intro hc1; (try simp only [bs] at hc1); refine f_seq (f_region (zm1 rfl rfl rfl (zm1 rfl rfl rfl ?_))); refine zq (p_add rfl Zz Zz (by omega)) rfl (zm2 rfl rfl rfl (snil (f_ret ?_)))
    refine ends_ret (res_eq (res1 rfl (res_tmp rfl (Sees.of rfl))) ?_)
    rw [Sp.picked, if_pos hc1]
  · intro hc1; (try simp only [bs] at hc1); refine f_skip (f_seq (f_region (zm1 rfl rfl rfl (zm2 rfl rfl rfl (snil (f_ret ?_))))))
    refine ends_ret (res_eq (res1 rfl (res_tmp rfl (Sees.of rfl))) ?_)
    rw [Sp.picked, if_neg (by omega)]

theorem kvar_spec (x : Int) (hx : -9223372036854775808 < x ∧ x ≤ 9223372036854775807) :
    Spec Go.Proofs.Tryz.prog 47 [iv x] (di (Sp.av x)) := by
  refine spec_of' Go.Proofs.Tryz.func47 rfl Go.Proofs.Tryz.ntmps47 rfl ?_
  refine f_seq (f_region (zm2 rfl rfl rfl (snil (f_seq (f_seq (f_region (zm1 rfl rfl rfl ?_))))))); refine zq (p_lss rfl Zz Zz) rfl (snil (f_cond rfl ?_ ?_))
  · intro hc1; (try simp only [bs] at hc1); refine f_seq (f_region (zm1 rfl rfl rfl ?_)); refine zq (p_neg rfl Zz (by omega)) rfl (zm2 rfl rfl rfl (snil (f_ret ?_)))
    refine ends_ret (res_eq (res1 rfl (res_tmp rfl (Sees.of rfl))) ?_)
    rw [Sp.av, Int.max_eq_right (by omega)]
  · intro hc1; (try simp only [bs] at hc1); refine f_skip (f_seq (f_region (zm1 rfl rfl rfl (zm2 rfl rfl rfl (snil (f_ret ?_))))))
    refine ends_ret (res_eq (res1 rfl (res_tmp rfl (Sees.of rfl))) ?_)
    rw [Sp.av, Int.max_eq_left (by omega)]

theorem ClauseOf_spec (y : Int) (m : Nat) (hm : 1 ≤ m ∧ m ≤ 120) :
    Spec Go.Proofs.Tryz.prog 16 [iv y, iv m] (ints (Sp.clOf m y)) := by
  refine spec_of' Go.Proofs.Tryz.func16 rfl Go.Proofs.Tryz.ntmps16 rfl ?_
  refine f_seq (f_region (zm5 rfl rfl rfl (snil (f_seq (f_region (zm5 rfl rfl rfl (snil (f_seq (f_seq (f_region (zm2 rfl rfl rfl (snil (f_block ?_)))))))))))))
  refine f_loop (α := Nat × Int × List Int × Nat) (fun (k, x, c, u) => k ≤ 3 ∧ Sp.clGo m 4 0 y [] = Sp.clGo m (4 - k) k x c ∧ Sp.Okc m c ∧ c.length ≤ k) (fun (k, x, c, u) => [(6, iv k), (0, iv x), (1, iv m), (5, .row 30000 u), (30000, .arr u 3 1 8 di 0 c), (4, .emp)]) (fun (k, x, c, u) => 4 - k) (0, y, [], 0) ?_ ?_ ?_
  · exact ⟨by decide, rfl, Sp.okc_nil m, Nat.le_refl _⟩
  · exact Le.trans (GLe.le (g_adopt (ob := 30000) (k := 5) 3 1 8 di 0 rfl rfl rfl rfl)) (le_ofL ⟨rfl, rfl, rfl, rfl, rfl, rfl, trivial⟩ rfl)
  · rintro ⟨k, x, c, u⟩ ⟨hk, hgo, hok, hcl⟩
    refine f_seq (f_seq (f_region (zm1 rfl rfl rfl (zm1 rfl rfl rfl ?_)))); refine zc (c_call rfl wTop1_isf8 ⟨_, _, rfl, Zz, rfl, ⟨_, _, rfl, Zz, rfl, rfl⟩⟩ (Picked_spec x 3 (by omega))) rfl ?_; refine zq (p_leq rfl Zz Zz) rfl (snil (f_cond rfl ?_ ?_))
    · intro hc1; (try simp only [bs] at hc1)
      have hk3 : Sp.picked x 3 ≤ 2 := by have := Sp.picked_rng x (n := 3) (by decide); omega
      have hvr := Sp.picked_rng (Sp.q64 x 3) (n := (m : Int)) (by omega)
      have hgo2 := Sp.clGo_go (m := (m : Int)) (f := 3 - k) (c := c) hc1
      refine f_skip (f_seq (f_block (f_seq (f_region (zm1 rfl rfl rfl ?_))))); refine zq (p_quoW rfl Zz Zz (by omega)) rfl (zm2 rfl rfl rfl (snil (f_seq (f_region (zm1 rfl rfl rfl (zm1 rfl rfl rfl ?_)))))); refine zc (c_call rfl wTop1_isf8 ⟨_, _, rfl, Zz, rfl, ⟨_, _, rfl, Zz, rfl, rfl⟩⟩ (Picked_spec (Sp.q64 x 3) m (by omega))) rfl ?_; refine zq (p_add rfl Zz Zz (by omega)) rfl (zm2 rfl rfl rfl (snil (f_seq (f_region (zm1 rfl rfl rfl (zm1 rfl rfl rfl ?_)))))); refine zq (p_quoW rfl Zz Zz (by omega)) rfl (zm2 rfl rfl rfl (snil (f_seq (f_region (zm2 rfl rfl rfl (snil (f_seq (f_seq (f_region (zm2 rfl rfl rfl (snil (f_block ?_))))))))))))
      refine f_loop (α := Nat) (fun i => i ≤ c.length) (fun i => [(9, iv i), (8, bv (Sp.had (c.take i) (1 + Sp.picked (Sp.q64 x 3) m))), (7, iv (1 + Sp.picked (Sp.q64 x 3) m)), (0, iv (Sp.q64 (Sp.q64 x 3) m)), (1, iv m), (6, iv k), (5, .row 30000 u), (30000, .arr u 3 1 8 di 0 c), (4, .emp)]) (fun i => c.length - i) 0 ?_ ?_ ?_
      · exact Nat.zero_le _
      · exact le_ofL ⟨rfl, rfl, rfl, rfl, rfl, rfl, rfl, rfl, rfl, trivial⟩ rfl
      · rintro i hi
        refine f_seq (f_seq (f_region (zm1 rfl rfl rfl (zm3 rfl rfl rfl ?_)))); refine zq (p_lenR rfl wTop1_isl22 Zz rfl) rfl ?_; refine zq (p_lss rfl Zz Zz) rfl (snil (f_cond rfl ?_ ?_))
        · intro hc2; (try simp only [bs] at hc2); refine f_skip (f_seq (f_block (f_region (zm1 rfl rfl rfl (zm1 rfl rfl rfl ?_))))); refine scons (CStep.guard rfl rfl rfl (fun hg0 => PStep.c (p_move (y := .row _ _) rfl Zz rfl)) rfl rfl rfl rfl rfl) ?_; refine scons (CStep.guard rfl rfl rfl (fun hg0 => PStep.c (p_move (y := .val _) rfl Zz rfl)) rfl rfl rfl rfl rfl) ?_; refine scons (CStep.guard rfl rfl rfl (fun hg0 => by have hp0 := hg0; (try simp only [bs] at hp0); exact PStep.c ((by first | exact p_indexR rfl wTop1_isl22 wTop1_siz3 (Sees.gv' rfl hg0) rfl (Sees.gv' rfl hg0) (by omega) | exact p_indexRZ rfl wTop1_isl22 wTop1_siz3 (Sees.gv' rfl hg0) rfl (Sees.gv' rfl hg0) (by omega) (by omega)))) rfl rfl rfl rfl rfl) ?_; refine scons (CStep.guard rfl rfl rfl (fun hg0 => by have hp0 := hg0; (try simp only [bs] at hp0); exact PStep.c (p_loadE rfl wTop1_agg3 (Sees.gv' rfl hg0) rfl (by omega) (fun _ => rfl))) rfl rfl rfl rfl rfl) ?_; refine scons (CStep.guard rfl rfl rfl (fun hg0 => PStep.c (p_move (y := .val _) rfl Zz rfl)) rfl rfl rfl rfl rfl) ?_; refine scons (CStep.guard rfl rfl rfl (fun hg0 => PStep.c (p_eql rfl (Sees.gv' rfl hg0) (Sees.gv' rfl hg0))) rfl rfl rfl rfl rfl) ?_; refine zq (p_or rfl Zz Zz (fun h => Sees.gv' rfl (beq_of_eq h))) rfl (zm1 rfl rfl rfl ?_); refine scons (CStep.guard rfl rfl rfl (fun hg0 => PStep.c (p_move (y := .row _ _) rfl Zz rfl)) rfl rfl rfl rfl rfl) ?_; refine scons (CStep.guard rfl rfl rfl (fun hg0 => PStep.c (p_move (y := .val _) rfl Zz rfl)) rfl rfl rfl rfl rfl) ?_; refine scons (CStep.guard rfl rfl rfl (fun hg0 => by have hp0 := hg0; (try simp only [bs] at hp0); exact PStep.c ((by first | exact p_indexR rfl wTop1_isl22 wTop1_siz3 (Sees.gv' rfl hg0) rfl (Sees.gv' rfl hg0) (by omega) | exact p_indexRZ rfl wTop1_isl22 wTop1_siz3 (Sees.gv' rfl hg0) rfl (Sees.gv' rfl hg0) (by omega) (by omega)))) rfl rfl rfl rfl rfl) ?_; refine scons (CStep.guard rfl rfl rfl (fun hg0 => by have hp0 := hg0; (try simp only [bs] at hp0); exact PStep.c (p_loadE rfl wTop1_agg3 (Sees.gv' rfl hg0) rfl (by omega) (fun _ => rfl))) rfl rfl rfl rfl rfl) ?_; refine scons (CStep.guard rfl rfl rfl (fun hg0 => PStep.c (p_move (y := .val _) rfl Zz rfl)) rfl rfl rfl rfl rfl) ?_; refine scons (CStep.guard rfl rfl rfl (fun hg0 => by have hp0 := hg0; (try simp only [bs] at hp0); exact PStep.c (p_neg rfl (Sees.gv' rfl hg0) (by omega))) rfl rfl rfl rfl rfl) ?_; refine scons (CStep.guard rfl rfl rfl (fun hg0 => PStep.c (p_eql rfl (Sees.gv' rfl hg0) (Sees.gv' rfl hg0))) rfl rfl rfl rfl rfl) ?_; refine zq (p_or rfl Zz Zz (fun h => Sees.gv' rfl (beq_of_eq h))) rfl (zm2 rfl rfl rfl (snil (f_nil ?_))); show AWs _ _ _ _ _; refine f_region (zm1 rfl rfl rfl ?_); refine zq (p_add rfl Zz Zz (by omega)) rfl (zm2 rfl rfl rfl (snil ?_))
          refine f_back ⟨i + 1, ?_, ?_, le_ofL ⟨rfl, (by rw [Sp.had_step (by omega)]; rfl), rfl, rfl, rfl, rfl, rfl, rfl, rfl, trivial⟩ rfl⟩
          · omega
          · omega
        · intro hc2; (try simp only [bs] at hc2)
          have hti : c.take i = c := List.take_of_length_le (by omega)
          have h4k : 4 - k = 3 - k + 1 := by omega
          have h3k : 4 - (k + 1) = 3 - k := by omega
          have hoka := Sp.clAdd_okc (m := m) (by omega) (x := x) hok
          refine f_exit ?_; show AWs _ _ _ _ _; refine f_seq (f_seq (f_region (zm1 rfl rfl rfl (snil (f_cond rfl ?_ ?_)))))
          · intro hc3; (try simp only [bs] at hc3); refine f_exit ?_; show AWs _ _ _ _ _; refine f_region (zm1 rfl rfl rfl ?_); refine zq (p_add rfl Zz Zz (by omega)) rfl (zm2 rfl rfl rfl (snil ?_))
            rw [hti] at hc3
            have ha : Sp.clAdd m x c = c := if_pos hc3
            refine f_back ⟨(k + 1, (Sp.q64 (Sp.q64 x 3) m), c, u), ?_, ?_, le_ofL ⟨rfl, rfl, rfl, rfl, rfl, rfl, trivial⟩ rfl⟩
            · exact ⟨by omega, by (rw [hgo, h4k, hgo2, ha, h3k] <;> rfl), hok, by omega⟩
            · show 4 - (k + 1) < 4 - k
              omega
          · intro hc3; (try simp only [bs] at hc3); refine f_skip (f_seq (f_seq (f_region (zm1 rfl rfl rfl ?_)))); refine zq (p_rem rfl Zz Zz (by omega)) rfl ?_; refine zq (p_neq rfl Zz Zz) rfl (snil (f_cond rfl ?_ ?_))
            · intro hc4; (try simp only [bs] at hc4); refine f_region (zm1 rfl rfl rfl ?_); refine zq (p_neg rfl Zz (by omega)) rfl (zm2 rfl rfl rfl (snil (f_region (zm3 rfl rfl rfl (zm1 rfl rfl rfl ?_))))); refine zc (c_buildSlice (f := di) (za := 0) (xs := [.tmp 58]) rfl rfl wTop1_isl22 wTop1_siz3 wTop1_zer3 rfl rfl ⟨_, _, rfl, Zz, rfl, rfl, rfl⟩) rfl ?_; refine scons (r_appendR (ob := 30000) rfl wTop1_isl22 wTop1_siz3 wTop1_byt3 wTop1_zer3 rfl rfl Zz rfl Zz (by simp only [List.length_append, List.length_cons, List.length_nil]; omega) (by simp only [List.length_append, List.length_cons, List.length_nil]; omega) rfl rfl rfl rfl rfl) ?_; refine zm4 rfl rfl rfl (snil (f_nil ?_)); show AWs _ _ _ _ _; refine f_region (zm1 rfl rfl rfl ?_); refine zq (p_add rfl Zz Zz (by omega)) rfl (zm2 rfl rfl rfl (snil ?_))
              rw [hti] at hc3
              have ha : Sp.clAdd m x c = c ++ [-(1 + Sp.picked (Sp.q64 x 3) m)] := by
                rw [Sp.clAdd, if_neg (by rw [hc3]; decide), Sp.clLit, if_pos hc4]
              refine f_back ⟨(k + 1, (Sp.q64 (Sp.q64 x 3) m), c ++ [-(1 + Sp.picked (Sp.q64 x 3) m)], u + 1), ?_, ?_, le_ofL ⟨rfl, rfl, rfl, rfl, rfl, rfl, trivial⟩ rfl⟩
              · exact ⟨by omega, by (rw [hgo, h4k, hgo2, ha, h3k] <;> rfl), by rw [← ha]; exact hoka, by rw [List.length_append, List.length_singleton]; omega⟩
              · show 4 - (k + 1) < 4 - k
                omega
            · intro hc4; (try simp only [bs] at hc4); refine f_skip (f_region (zm3 rfl rfl rfl (zm1 rfl rfl rfl ?_))); refine zc (c_buildSlice (f := di) (za := 0) (xs := [.tmp 58]) rfl rfl wTop1_isl22 wTop1_siz3 wTop1_zer3 rfl rfl ⟨_, _, rfl, Zz, rfl, rfl, rfl⟩) rfl ?_; refine scons (r_appendR (ob := 30000) rfl wTop1_isl22 wTop1_siz3 wTop1_byt3 wTop1_zer3 rfl rfl Zz rfl Zz (by simp only [List.length_append, List.length_cons, List.length_nil]; omega) (by simp only [List.length_append, List.length_cons, List.length_nil]; omega) rfl rfl rfl rfl rfl) ?_; refine zm4 rfl rfl rfl (snil (f_nil ?_)); show AWs _ _ _ _ _; refine f_region (zm1 rfl rfl rfl ?_); refine zq (p_add rfl Zz Zz (by omega)) rfl (zm2 rfl rfl rfl (snil ?_))
              rw [hti] at hc3
              have ha : Sp.clAdd m x c = c ++ [(1 + Sp.picked (Sp.q64 x 3) m)] := by
                rw [Sp.clAdd, if_neg (by rw [hc3]; decide), Sp.clLit, if_neg (fun h => h hc4)]
              refine f_back ⟨(k + 1, (Sp.q64 (Sp.q64 x 3) m), c ++ [(1 + Sp.picked (Sp.q64 x 3) m)], u + 1), ?_, ?_, le_ofL ⟨rfl, rfl, rfl, rfl, rfl, rfl, trivial⟩ rfl⟩
              · exact ⟨by omega, by (rw [hgo, h4k, hgo2, ha, h3k] <;> rfl), by rw [← ha]; exact hoka, by rw [List.length_append, List.length_singleton]; omega⟩
              · show 4 - (k + 1) < 4 - k
                omega
    · intro hc1; (try simp only [bs] at hc1)
      have hend : Sp.clGo m 4 0 y [] = c := by
        rw [hgo]
        cases hq : 4 - k with
        | zero => rfl
        | succ f => exact Sp.clGo_no (by omega)
      have hcr : ∀ z ∈ c, -9223372036854775808 < z ∧ z ≤ 9223372036854775807 := fun z hz => by have := hok.1 z hz; omega
      refine f_exit ?_; show AWs _ _ _ _ _; refine f_seq (f_seq (f_region (zm2 rfl rfl rfl (snil (f_block ?_)))))
      refine f_loop (α := Nat × Nat) (fun (i, v) => 1 ≤ i ∧ (i ≤ c.length ∨ i = 1)) (fun (i, v) => [(10, iv i), (5, .row 30000 v), (30000, .arr v 3 1 8 di 0 (Sp.insTo c i)), (4, .emp)]) (fun (i, v) => c.length + 1 - i) (1, u) ?_ ?_ ?_
      · exact ⟨Nat.le_refl _, .inr rfl⟩
      · exact le_ofL ⟨rfl, rfl, rfl, rfl, trivial⟩ rfl
      · rintro ⟨i, v⟩ ⟨hi1, hi⟩
        have hi1 : 1 ≤ i := hi1
        have hi : i ≤ c.length ∨ i = 1 := hi
        have hil := Sp.insTo_len c i
        refine f_seq (f_seq (f_region (zm1 rfl rfl rfl (zm3 rfl rfl rfl ?_)))); refine zq (p_lenR rfl wTop1_isl22 Zz rfl) rfl ?_; refine zq (p_lss rfl Zz Zz) rfl (snil (f_cond rfl ?_ ?_))
        · intro hc5; (try simp only [bs] at hc5); refine f_skip (f_seq (f_block (f_seq (f_region (zm1 rfl rfl rfl (zm2 rfl rfl rfl (snil (f_block ?_))))))))
          refine f_loop (α := Nat × List Int × Nat) (fun (j, d, w) => j ≤ i ∧ Sp.insJ j d = Sp.insTo c (i + 1) ∧ d.Perm c) (fun (j, d, w) => [(11, iv j), (10, iv i), (5, .row 30000 w), (30000, .arr w 3 1 8 di 0 d), (4, .emp)]) (fun (j, d, w) => j) (i, Sp.insTo c i, v) ?_ ?_ ?_
          · exact ⟨Nat.le_refl _, (Sp.insTo_succ c i).symm, Sp.insTo_perm c i (by omega)⟩
          · exact le_ofL ⟨rfl, rfl, rfl, rfl, rfl, trivial⟩ rfl
          · rintro ⟨j, d, w⟩ ⟨hj, hins, hpm⟩
            have hj : j ≤ i := hj
            have hdl : d.length = c.length := hpm.length_eq
            have hdr : ∀ z ∈ d, -9223372036854775808 < z ∧ z ≤ 9223372036854775807 := fun z hz => hcr z (hpm.mem_iff.1 hz)
            refine f_seq (f_seq ?_); refine f_draw wTop1_mix (by kernel_rfl) (zd1 rfl rfl rfl ?_); refine yq (p_gtr rfl Zz Zz) rfl (zd1 rfl rfl rfl ?_); refine dcons (CStep.guard rfl rfl rfl (fun hg0 => PStep.c (p_move (y := .row _ _) rfl Zz rfl)) rfl rfl rfl rfl rfl) ?_; refine dcons (CStep.guard rfl rfl rfl (fun hg0 => PStep.c (p_move (y := .val _) rfl Zz rfl)) rfl rfl rfl rfl rfl) ?_; refine dcons (CStep.guard rfl rfl rfl (fun hg0 => by have hp0 := hg0; (try simp only [bs] at hp0); exact PStep.c ((by first | exact p_indexR rfl wTop1_isl22 wTop1_siz3 (Sees.gv' rfl hg0) rfl (Sees.gv' rfl hg0) (by omega) | exact p_indexRZ rfl wTop1_isl22 wTop1_siz3 (Sees.gv' rfl hg0) rfl (Sees.gv' rfl hg0) (by omega) (by omega)))) rfl rfl rfl rfl rfl) ?_; refine dcons (CStep.guard rfl rfl rfl (fun hg0 => by have hp0 := hg0; (try simp only [bs] at hp0); exact PStep.c (p_loadE rfl wTop1_agg3 (Sees.gv' rfl hg0) rfl (by omega) (fun _ => rfl))) rfl rfl rfl rfl rfl) ?_; refine dcons (CStep.guard rfl rfl rfl (fun hg0 => by have hp0 := hg0; (try simp only [bs] at hp0); exact c_call rfl wTop1_isf47 ⟨_, _, rfl, (Sees.gv' rfl hg0), rfl, rfl⟩ (kvar_spec (d.getD j 0) (hdr _ (Sp.getD_mem d j 0 (by omega))))) rfl rfl rfl rfl rfl) ?_; refine dcons (CStep.guard rfl rfl rfl (fun hg0 => PStep.c (p_move (y := .row _ _) rfl Zz rfl)) rfl rfl rfl rfl rfl) ?_; refine dcons (CStep.guard rfl rfl rfl (fun hg0 => PStep.c (p_move (y := .val _) rfl Zz rfl)) rfl rfl rfl rfl rfl) ?_; refine dcons (CStep.guard rfl rfl rfl (fun hg0 => by have hp0 := hg0; (try simp only [bs] at hp0); exact PStep.c (p_sub rfl (Sees.gv' rfl hg0) Zz (by omega))) rfl rfl rfl rfl rfl) ?_; refine dcons (CStep.guard rfl rfl rfl (fun hg0 => by have hp0 := hg0; (try simp only [bs] at hp0); exact PStep.c ((by first | exact p_indexR rfl wTop1_isl22 wTop1_siz3 (Sees.gv' rfl hg0) rfl (Sees.gv' rfl hg0) (by omega) | exact p_indexRZ rfl wTop1_isl22 wTop1_siz3 (Sees.gv' rfl hg0) rfl (Sees.gv' rfl hg0) (by omega) (by omega)))) rfl rfl rfl rfl rfl) ?_; refine dcons (CStep.guard rfl rfl rfl (fun hg0 => by have hp0 := hg0; (try simp only [bs] at hp0); exact PStep.c (p_loadE rfl wTop1_agg3 (Sees.gv' rfl hg0) rfl (by omega) (fun _ => rfl))) rfl rfl rfl rfl rfl) ?_; refine dcons (CStep.guard rfl rfl rfl (fun hg0 => by have hp0 := hg0; (try simp only [bs] at hp0); exact c_call rfl wTop1_isf47 ⟨_, _, rfl, (Sees.gv' rfl hg0), rfl, rfl⟩ (kvar_spec (d.getD ((j : Int) - 1).toNat 0) (hdr _ (Sp.getD_mem d _ 0 (by omega))))) rfl rfl rfl rfl rfl) ?_; refine dcons (CStep.guard rfl rfl rfl (fun hg0 => PStep.c (p_lss rfl (Sees.gv' rfl hg0) (Sees.gv' rfl hg0))) rfl rfl rfl rfl rfl) ?_; refine yq (p_and rfl Zz (fun h => Sees.gv' rfl (beq_of_eq h)) Zz) rfl ?_; refine dnil (by kernel_rfl) (f_cond rfl ?_ ?_)
            · intro hc6; (try simp only [bs] at hc6); refine f_skip (f_seq (f_block ?_)); refine f_draw wTop1_mix (by kernel_rfl) ?_; refine yq (p_move (y := .row _ _) rfl Zz rfl) rfl (zd1 rfl rfl rfl ?_); refine yq (p_move (y := .row _ _) rfl Zz rfl) rfl (zd1 rfl rfl rfl ?_); refine yq (p_sub rfl Zz Zz (by omega)) rfl ?_; refine yq (p_move (y := .row _ _) rfl Zz rfl) rfl (zd1 rfl rfl rfl ?_); refine yq (p_sub rfl Zz Zz (by omega)) rfl ?_; refine yq ((by first | exact p_indexR rfl wTop1_isl22 wTop1_siz3 Zz rfl Zz (by omega) | exact p_indexRZ rfl wTop1_isl22 wTop1_siz3 Zz rfl Zz (by omega) (by omega))) rfl ?_; refine yq (p_loadE rfl wTop1_agg3 Zz rfl (by omega) (fun _ => rfl)) rfl ?_; refine yq (p_move (y := .row _ _) rfl Zz rfl) rfl (zd1 rfl rfl rfl ?_); refine yq ((by first | exact p_indexR rfl wTop1_isl22 wTop1_siz3 Zz rfl Zz (by omega) | exact p_indexRZ rfl wTop1_isl22 wTop1_siz3 Zz rfl Zz (by omega) (by omega))) rfl ?_; refine yq (p_loadE rfl wTop1_agg3 Zz rfl (by omega) (fun _ => rfl)) rfl ?_; refine yq ((by first | exact p_indexR rfl wTop1_isl22 wTop1_siz3 Zz rfl Zz (by omega) | exact p_indexRZ rfl wTop1_isl22 wTop1_siz3 Zz rfl Zz (by omega) (by omega))) rfl ?_; refine dcons (r_storeE rfl wTop1_siz3 rfl rfl rfl Zz rfl (by omega) Zz rfl) ?_; refine yq ((by first | exact p_indexR rfl wTop1_isl22 wTop1_siz3 Zz rfl Zz (by rw [List.length_set]; omega) | exact p_indexRZ rfl wTop1_isl22 wTop1_siz3 Zz rfl Zz (by omega) (by rw [List.length_set]; omega))) rfl ?_; refine dcons (r_storeE rfl wTop1_siz3 rfl rfl rfl Zz rfl (by rw [List.length_set]; omega) Zz rfl) ?_; refine dnil (by kernel_rfl) (f_nil ?_); show AWs _ _ _ _ _; refine f_region (zm1 rfl rfl rfl ?_); refine zq (p_sub rfl Zz Zz (by omega)) rfl (zm2 rfl rfl rfl (snil ?_))
              have he : ((j : Int) - 1).toNat = j - 1 := by omega
              rw [he] at hc6
              refine f_back ⟨(j - 1, Sp.swp d (j - 1), w), ?_, ?_, le_ofL ⟨(by show AV.val (.int .i64 ((j : Int) - 1)) = _; exact congrArg (fun q => AV.val (.int .i64 q)) (by omega)), rfl, rfl, (by show AV.arr _ _ _ _ _ _ ((d.set j (d.getD ((j : Int) - 1).toNat 0)).set ((j : Int) - 1).toNat (d.getD j 0)) = _; rw [he, Sp.swp_eq (by omega)]), rfl, trivial⟩ rfl⟩
              · exact ⟨by omega, by rw [← Sp.insJ_less (by omega) hc6.2]; exact hins, (Sp.swp_perm (by omega)).trans hpm⟩
              · show j - 1 < j
                omega
            · intro hc6; (try simp only [bs] at hc6); refine f_exit ?_; show AWs _ _ _ _ _; refine f_nil ?_; show AWs _ _ _ _ _; refine f_region (zm1 rfl rfl rfl ?_); refine zq (p_add rfl Zz Zz (by omega)) rfl (zm2 rfl rfl rfl (snil ?_))
              have he : ((j : Int) - 1).toNat = j - 1 := by omega
              rw [he] at hc6
              have hdd : Sp.insJ j d = d := Sp.insJ_stop (by omega)
              refine f_back ⟨(i + 1, w), ?_, ?_, le_ofL ⟨rfl, rfl, (by (rw [← hins, hdd] <;> rfl)), rfl, trivial⟩ rfl⟩
              · exact ⟨by omega, .inl (by omega)⟩
              · show c.length + 1 - (i + 1) < c.length + 1 - i
                omega
        · intro hc5; (try simp only [bs] at hc5); refine f_exit ?_; show AWs _ _ _ _ _; refine f_seq (f_region (zm3 rfl rfl rfl (zm4 rfl rfl rfl (snil (f_ret ?_)))))
          refine ends_ret (res_eq (res1 rfl (res_row rfl rfl rfl)) ?_)
          rw [Sp.insTo_end (by omega) hi, Sp.clOf, hend]

theorem CnfOf_spec (l : List Int) (m n : Nat) (hm : 1 ≤ m ∧ m ≤ 120) (hn : n ≤ 1000) :
    Spec Go.Proofs.Tryz.prog 7 [.val (ints l), iv m, iv n] (cnf m (Sp.cnfOf l m n)) := by
  refine spec_of' Go.Proofs.Tryz.func7 rfl Go.Proofs.Tryz.ntmps7 rfl ?_
  refine f_seq ?_
  refine f_wf (.tmp 0) rfl (fun hwf => ?_) (by simp)
  have hlen : l.length ≤ 140737488355328 := hwf.1
  clear hwf
  refine f_region ?_; refine scons (r_alloc (ob := 10006) rfl wTop1_zer25 rfl rfl rfl rfl rfl rfl) (snil (f_seq (f_region (zm1 rfl rfl rfl ?_)))); refine zq (p_buildV rfl wTop1_plc25 wTop1_zer25 rfl rfl ⟨_, _, _, _, _, rfl, rfl, rfl, Zz, (oneAt_val rfl), ⟨rfl, rfl⟩⟩ rfl) rfl ?_; refine scons (r_alloc (ob := 10007) rfl wTop1_zer25 rfl rfl rfl rfl rfl rfl) ?_; refine scons (r_storeV rfl wTop1_siz25 rfl rfl rfl Zz rfl Zz rfl rfl rfl rfl) (snil (f_seq (f_seq (f_region (zm2 rfl rfl rfl (snil (f_block ?_)))))))
  refine f_loop (α := Nat × Nat) (fun (i, u) => i ≤ l.length ∧ i ≤ n) (fun (i, u) => [(8, iv i), (7, .ref 10007 0 0), (10007, .box 0 (.ccons (iv m) (.ccons (.row 30000 u) .cnil))), (30000, .arr u 22 1 24 ints [] ((l.take i).map (Sp.clOf m))), (0, .val (ints l)), (1, iv m), (2, iv n), (6, .ref 10006 0 0), (10006, .box 0 (.ccons (iv 0) (.ccons (.emp) .cnil)))]) (fun (i, u) => l.length - i) (0, 0) ?_ ?_ ?_
  · exact ⟨Nat.zero_le _, Nat.zero_le _⟩
  · exact Le.trans (GLe.le (g_adoptB (ob := 10007) (off := 1) (o1 := 30000) 22 1 24 ints [] rfl rfl rfl rfl rfl rfl rfl)) (le_ofL ⟨rfl, rfl, rfl, rfl, rfl, rfl, rfl, rfl, rfl, trivial⟩ rfl)
  · rintro ⟨i, u⟩ ⟨hi, hin⟩
    have hi : i ≤ l.length := hi
    have hin : i ≤ n := hin
    refine f_seq (f_seq (f_region (zm1 rfl rfl rfl (zm1 rfl rfl rfl ?_)))); refine zq (p_len rfl wTop1_isl22 Zz) rfl ?_; refine zq (p_lss rfl Zz Zz) rfl (zm1 rfl rfl rfl ?_); refine scons (CStep.guard rfl rfl rfl (fun hg0 => PStep.c (p_move (y := .val _) rfl Zz rfl)) rfl rfl rfl rfl rfl) ?_; refine scons (CStep.guard rfl rfl rfl (fun hg0 => PStep.c (p_move (y := .val _) rfl Zz rfl)) rfl rfl rfl rfl rfl) ?_; refine scons (CStep.guard rfl rfl rfl (fun hg0 => PStep.c (p_lss rfl (Sees.gv' rfl hg0) (Sees.gv' rfl hg0))) rfl rfl rfl rfl rfl) ?_; refine zq (p_and rfl Zz (fun h => Sees.gv' rfl (beq_of_eq h)) Zz) rfl (snil (f_cond rfl ?_ ?_))
    · intro hc1; (try simp only [bs] at hc1); refine f_skip (f_seq (f_block ?_)); refine f_draw wTop1_mix (by kernel_rfl) ?_; refine yq (p_fieldRef rfl wTop1_fld25_1 wTop1_siz23 rfl Zz rfl) rfl ?_; refine yq (p_loadB (y := .row _ _) rfl wTop1_agg23 Zz rfl rfl rfl rfl) rfl (zd1 rfl rfl rfl (zd1 rfl rfl rfl ?_)); refine yq ((by first | exact p_indexN rfl wTop1_isl22 wTop1_siz3 Zz Zz (by omega) | exact p_index rfl wTop1_isl22 wTop1_siz3 Zz Zz (by omega) (by omega))) rfl ?_; refine yq (p_load rfl wTop1_agg3 Zz rfl) rfl (zd1 rfl rfl rfl ?_); refine yc (c_call rfl wTop1_isf16 ⟨_, _, rfl, Zz, rfl, ⟨_, _, rfl, Zz, rfl, rfl⟩⟩ (ClauseOf_spec (l.getD i 0) m hm)) rfl ?_; refine yc (c_buildSlice (f := ints) (za := []) (xs := [.tmp 29]) rfl rfl wTop1_isl23 wTop1_siz22 wTop1_zer22 rfl rfl ⟨_, _, rfl, Zz, rfl, rfl, rfl⟩) rfl ?_; refine dcons (r_appendR (ob := 30000) rfl wTop1_isl23 wTop1_siz22 wTop1_byt22 wTop1_zer22 rfl rfl Zz rfl Zz (by simp only [List.length_map, List.length_take, List.length_cons, List.length_nil]; omega) (by simp only [List.length_map, List.length_take, List.length_cons, List.length_nil]; omega) rfl rfl rfl rfl rfl) ?_; refine yq (p_fieldRef rfl wTop1_fld25_1 wTop1_siz23 rfl Zz rfl) rfl ?_; refine dcons (r_storeR rfl wTop1_siz23 rfl rfl rfl Zz rfl rfl Zz rfl) ?_; refine dnil (by kernel_rfl) (f_nil ?_); show AWs _ _ _ _ _; refine f_region (zm1 rfl rfl rfl ?_); refine zq (p_add rfl Zz Zz (by omega)) rfl (zm2 rfl rfl rfl (snil ?_))
      refine f_back ⟨(i + 1, u + 1), ?_, ?_, le_ofL ⟨rfl, rfl, rfl, (by rw [Sp.take_getD l i 0 (by omega), List.map_append]; rfl), rfl, rfl, rfl, rfl, rfl, trivial⟩ rfl⟩
      · exact ⟨by omega, by omega⟩
      · show l.length - (i + 1) < l.length - i
        omega
    · intro hc1; (try simp only [bs] at hc1); refine f_exit ?_; show AWs _ _ _ _ _; refine f_seq ?_
      refine f_le (GLe.le (g_freezeB (ob := 10007) (off := 1) (o1 := 30000) rfl rfl rfl rfl rfl rfl rfl)) ?_ (by simp)
      refine f_region ?_; refine zq (p_loadBS rfl wTop1_agg25 wTop1_siz25 Zz rfl rfl rfl) rfl ?_; refine scons (r_storeS rfl wTop1_siz25 rfl rfl rfl Zz rfl Zz rfl rfl rfl rfl) (snil (f_ret ?_))
      refine ends_ret (res_eq (res1 rfl (res_cell (by rfl) rfl rfl wTop1_agg25 wTop1_siz25 rfl rfl)) ?_)
      (rw [Sp.cnfOf, show l.take n = l.take i from Sp.take_same (by omega)] <;> rfl)

theorem clausesSure_spec  :
    Spec Go.Proofs.Tryz.prog 10 [] (D.bool true) := by
  refine spec_of' Go.Proofs.Tryz.func10 rfl Go.Proofs.Tryz.ntmps10 rfl ?_
  refine f_seq (f_region (zm2 rfl rfl rfl (snil (f_seq (f_region ?_))))); refine zc (c_buildSlice (f := di) (za := 0) (xs := [.const (.int .i64 1)]) rfl rfl wTop1_isl22 wTop1_siz3 wTop1_zer3 rfl rfl ⟨_, _, rfl, Zz, rfl, rfl, rfl⟩) rfl ?_; refine zc (c_buildSlice (f := di) (za := 0) (xs := [.const (.int .i64 (-1))]) rfl rfl wTop1_isl22 wTop1_siz3 wTop1_zer3 rfl rfl ⟨_, _, rfl, Zz, rfl, rfl, rfl⟩) rfl ?_; refine zc (c_buildSlice (f := ints) (za := []) (xs := [.tmp 4, .tmp 5]) rfl rfl wTop1_isl23 wTop1_siz22 wTop1_zer22 rfl rfl ⟨_, _, rfl, Zz, rfl, rfl, ⟨_, _, rfl, Zz, rfl, rfl, rfl⟩⟩) rfl ?_; refine zq (p_build rfl wTop1_plc25 wTop1_zer25 (by decide) wTop1_zch25 ⟨_, _, _, rfl, rfl, rfl, Zz, ⟨_, _, _, rfl, rfl, rfl, Zz, rfl⟩⟩ rfl) rfl ?_; refine zq (p_build rfl wTop1_plc40 wTop1_zer40 (by decide) wTop1_zch40 rfl rfl) rfl ?_; refine zc (c_call rfl wTop1_isf11 ⟨_, _, rfl, Zz, rfl, ⟨_, _, rfl, (Sees.emp rfl _ _ _), rfl, ⟨_, _, rfl, Zz, rfl, ⟨_, _, rfl, Zz, rfl, rfl⟩⟩⟩⟩ (Do_spec 1 Sp.sureC [] 0 0 0 0 2000)) rfl (zm1 rfl rfl rfl ?_); refine zq (p_extract rfl Zz rfl) rfl ?_; refine zq (p_extract rfl Zz rfl) rfl ?_; refine scons (r_alloc (ob := 10001) rfl wTop1_zer36 rfl rfl rfl rfl rfl rfl) ?_; refine scons (r_alloc (ob := 10002) rfl wTop1_zer29 rfl rfl rfl rfl rfl rfl) ?_; refine scons (r_storeS rfl wTop1_siz36 rfl rfl rfl Zz rfl Zz rfl rfl rfl rfl) ?_; refine scons (r_storeS rfl wTop1_siz29 rfl rfl rfl Zz rfl Zz rfl rfl rfl rfl) (snil (f_seq (f_region ?_))); refine zq (p_fieldRef rfl wTop1_fld29_0 wTop1_siz3 rfl Zz rfl) rfl ?_; refine zq (p_loadB (y := .val _) rfl wTop1_agg3 Zz rfl rfl rfl rfl) rfl ?_; refine zq (p_eql rfl Zz Zz) rfl (zm1 rfl rfl rfl ?_); refine scons (CStep.guard rfl rfl rfl (fun hg0 => PStep.c (p_fieldRef rfl wTop1_fld36_0 wTop1_siz3 rfl Zz rfl)) rfl rfl rfl rfl rfl) ?_; refine scons (CStep.guard rfl rfl rfl (fun hg0 => PStep.c (p_loadB (y := .val _) rfl wTop1_agg3 (Sees.gv' rfl hg0) rfl rfl rfl rfl)) rfl rfl rfl rfl rfl) ?_; refine scons (CStep.guard rfl rfl rfl (fun hg0 => PStep.c (p_eql rfl (Sees.gv' rfl hg0) Zz)) rfl rfl rfl rfl rfl) ?_; refine zq (p_and rfl Zz (fun h => Sees.gv' rfl (beq_of_eq h)) Zz) rfl (zm2 rfl rfl rfl (snil (f_ret ?_)))
  refine ends_ret (res_eq (res1 rfl (res_tmp rfl (Sees.of rfl))) ?_)
  obtain ⟨A, h1, h2⟩ := Sp.sure_no
  rw [h1]
  simp [h2]

end Go.Um
