/- Walks of Go functions of this seat, each by its contract. No condition beyond what each theorem says. -/
import Derived.Test.YtpjenbbalengoaaWCd6
import Derived.Test.YtpjenbbalengoaaSq7
import Derived.Test.YtpjenbbalengoaaProg
import Derived.KernelRfl
set_option maxRecDepth 4000
namespace Go.Um
open Go Go.RowKit

theorem wCd7_agg24 : IsAgg Go.Proofs.Try.prog 24 false := by unfold IsAgg; kernel_rfl
theorem wCd7_agg26 : IsAgg Go.Proofs.Try.prog 26 true := by unfold IsAgg; kernel_rfl
theorem wCd7_agg3 : IsAgg Go.Proofs.Try.prog 3 false := by unfold IsAgg; kernel_rfl
theorem wCd7_agg37 : IsAgg Go.Proofs.Try.prog 37 false := by unfold IsAgg; kernel_rfl
theorem wCd7_agg39 : IsAgg Go.Proofs.Try.prog 39 true := by unfold IsAgg; kernel_rfl
theorem wCd7_agg41 : IsAgg Go.Proofs.Try.prog 41 true := by unfold IsAgg; kernel_rfl
theorem wCd7_byt3 : Bytes Go.Proofs.Try.prog 3 8 := by unfold Bytes; kernel_rfl
theorem wCd7_fld26_0 : IsField Go.Proofs.Try.prog 26 0 0 3 := by unfold IsField; kernel_rfl
theorem wCd7_fld39_0 : IsField Go.Proofs.Try.prog 39 0 0 3 := by unfold IsField; kernel_rfl
theorem wCd7_fld39_1 : IsField Go.Proofs.Try.prog 39 1 1 37 := by unfold IsField; kernel_rfl
theorem wCd7_fld46_0 : IsField Go.Proofs.Try.prog 46 0 0 3 := by unfold IsField; kernel_rfl
theorem wCd7_fld46_1 : IsField Go.Proofs.Try.prog 46 1 1 24 := by unfold IsField; kernel_rfl
theorem wCd7_isf19 : IsFn Go.Proofs.Try.prog 19 := by unfold IsFn; kernel_rfl
theorem wCd7_isf20 : IsFn Go.Proofs.Try.prog 20 := by unfold IsFn; kernel_rfl
theorem wCd7_isf21 : IsFn Go.Proofs.Try.prog 21 := by unfold IsFn; kernel_rfl
theorem wCd7_isf23 : IsFn Go.Proofs.Try.prog 23 := by unfold IsFn; kernel_rfl
theorem wCd7_isf28 : IsFn Go.Proofs.Try.prog 28 := by unfold IsFn; kernel_rfl
theorem wCd7_isf29 : IsFn Go.Proofs.Try.prog 29 := by unfold IsFn; kernel_rfl
theorem wCd7_isf30 : IsFn Go.Proofs.Try.prog 30 := by unfold IsFn; kernel_rfl
theorem wCd7_isf79 : IsFn Go.Proofs.Try.prog 79 := by unfold IsFn; kernel_rfl
theorem wCd7_isf80 : IsFn Go.Proofs.Try.prog 80 := by unfold IsFn; kernel_rfl
theorem wCd7_isl24 : IsSlice Go.Proofs.Try.prog 24 4 := by unfold IsSlice; kernel_rfl
theorem wCd7_isl33 : IsSlice Go.Proofs.Try.prog 33 3 := by unfold IsSlice; kernel_rfl
theorem wCd7_mix : (Go.Proofs.Try.prog).follows .mixedOrders = true := by kernel_rfl
theorem wCd7_plc26 : Places Go.Proofs.Try.prog 26 [(0, 1), (1, 1)] := by unfold Places; kernel_rfl
theorem wCd7_siz24 : Size Go.Proofs.Try.prog 24 1 := by unfold Size; kernel_rfl
theorem wCd7_siz26 : Size Go.Proofs.Try.prog 26 2 := by unfold Size; kernel_rfl
theorem wCd7_siz3 : Size Go.Proofs.Try.prog 3 1 := by unfold Size; kernel_rfl
theorem wCd7_siz37 : Size Go.Proofs.Try.prog 37 1 := by unfold Size; kernel_rfl
theorem wCd7_siz39 : Size Go.Proofs.Try.prog 39 2 := by unfold Size; kernel_rfl
theorem wCd7_siz41 : Size Go.Proofs.Try.prog 41 4 := by unfold Size; kernel_rfl
theorem wCd7_siz46 : Size Go.Proofs.Try.prog 46 5 := by unfold Size; kernel_rfl
def wCd7_z26 : D := .cons (.int .i64 0) (.cons (.int .i64 0) (.nil))
theorem wCd7_zch26 : ∀ (ok : Nat → Prop) (w : World), R Go.Proofs.Try.prog wCd7_z26 ok w (Value.cells (.agg #[(.int .i64 0), (.int .i64 0)])).toList := fun _ _ => z_int (z_int (z_nil))
theorem wCd7_zer26 : Zero Go.Proofs.Try.prog 26 (.agg #[(.int .i64 0), (.int .i64 0)]) := by unfold Zero; kernel_rfl
theorem wCd7_zer3 : Zero Go.Proofs.Try.prog 3 (.int .i64 0) := by unfold Zero; kernel_rfl
theorem wCd7_zer46 : Zero Go.Proofs.Try.prog 46 (.agg #[(.int .i64 0), (.slice none 0 0), (.slice none 0 0), (.slice none 0 0), (.int .i64 0)]) := by unfold Zero; kernel_rfl

theorem of_spec (x : Int) (hx : -9223372036854775808 < x ∧ x ≤ 9223372036854775807) :
    Spec Go.Proofs.Try.prog 29 [iv x] (di (Sp.av x)) := by
  refine spec_of' Go.Proofs.Try.func29 rfl Go.Proofs.Try.ntmps29 rfl ?_
  refine f_seq ?_
  refine f_region ?_
  refine scons (CStep.step (PStep.c (p_assign (y := .val _) rfl (Sees.of rfl) rfl)) rfl rfl rfl rfl) ?_
  refine snil ?_
  refine f_seq ?_
  refine f_seq ?_
  refine f_region ?_
  refine scons (CStep.step (PStep.c (p_move (y := .val _) rfl (Sees.of rfl) rfl)) rfl rfl rfl rfl) ?_
  refine scons (CStep.step (PStep.c (p_lss rfl (Sees.of rfl) (Sees.of rfl))) rfl rfl rfl rfl) ?_
  refine snil ?_
  refine f_cond rfl ?_ ?_
  · intro hc1
    try simp only [bs] at hc1
    refine f_seq ?_
    refine f_region ?_
    refine scons (CStep.step (PStep.c (p_move (y := .val _) rfl (Sees.of rfl) rfl)) rfl rfl rfl rfl) ?_
    refine scons (CStep.step (PStep.c (p_neg rfl (Sees.of rfl) (by omega))) rfl rfl rfl rfl) ?_
    refine scons (CStep.step (PStep.c (p_assign (y := .val _) rfl (Sees.of rfl) rfl)) rfl rfl rfl rfl) ?_
    refine snil ?_
    refine f_ret ?_
    refine ends_ret (res_eq (res1 rfl (res_tmp rfl (Sees.of rfl))) ?_)
    rw [Sp.av, Int.max_eq_right (by omega)]
  · intro hc1
    try simp only [bs] at hc1
    refine f_skip ?_
    refine f_seq ?_
    refine f_region ?_
    refine scons (CStep.step (PStep.c (p_move (y := .val _) rfl (Sees.of rfl) rfl)) rfl rfl rfl rfl) ?_
    refine scons (CStep.step (PStep.c (p_assign (y := .val _) rfl (Sees.of rfl) rfl)) rfl rfl rfl rfl) ?_
    refine snil ?_
    refine f_ret ?_
    refine ends_ret (res_eq (res1 rfl (res_tmp rfl (Sees.of rfl))) ?_)
    rw [Sp.av, Int.max_eq_left (by omega)]

theorem Probe_spec (n : Int) (ls : List (List Int)) :
    Spec Go.Proofs.Try.prog 28 [.val (cnf n ls)] (two (ints (Sp.prOf n ls)) (fault (Sp.check n ls).1 (Sp.check n ls).2)) := by
  refine spec_of' Go.Proofs.Try.func28 rfl Go.Proofs.Try.ntmps28 rfl ?_
  refine f_seq ?_
  refine f_region ?_
  refine scons (r_box (ob := 10001) rfl (Sees.of rfl) rfl rfl rfl rfl rfl rfl) ?_
  refine scons (CStep.step (PStep.c (p_assign (y := .emp) rfl (Sees.of rfl) rfl)) rfl rfl rfl rfl) ?_
  refine scons (r_alloc (ob := 10003) rfl wCd7_zer26 rfl rfl rfl rfl rfl rfl) ?_
  refine snil ?_
  refine f_seq ?_
  refine f_seq ?_
  refine f_region ?_
  refine scons (CStep.step (PStep.c (p_loadBS rfl wCd7_agg39 wCd7_siz39 (Sees.of rfl) rfl rfl rfl)) rfl rfl rfl rfl) ?_
  refine scons (CStep.step (c_call rfl wCd7_isf79 ⟨_, _, rfl, (Sees.of rfl), rfl, rfl⟩ (ccheck_spec n ls)) rfl rfl rfl rfl) ?_
  refine scons (r_alloc (ob := 10004) rfl wCd7_zer26 rfl rfl rfl rfl rfl rfl) ?_
  refine scons (r_storeS rfl wCd7_siz26 rfl rfl rfl (Sees.of rfl) rfl (Sees.of rfl) rfl rfl rfl rfl) ?_
  refine snil ?_
  refine f_seq ?_
  refine f_region ?_
  refine scons (CStep.step (PStep.c (p_fieldRef rfl wCd7_fld26_0 wCd7_siz3 rfl (Sees.of rfl) rfl)) rfl rfl rfl rfl) ?_
  refine scons (CStep.step (PStep.c (p_loadB (y := .val _) rfl wCd7_agg3 (Sees.of rfl) rfl rfl rfl rfl)) rfl rfl rfl rfl) ?_
  refine scons (CStep.step (PStep.c (p_neq rfl (Sees.of rfl) (Sees.of rfl))) rfl rfl rfl rfl) ?_
  refine snil ?_
  refine f_cond rfl ?_ ?_
  · intro hc1
    try simp only [bs] at hc1
    refine f_seq ?_
    refine f_draw wCd7_mix (by kernel_rfl) ?_
    refine dcons (CStep.step (PStep.c (p_loadBS rfl wCd7_agg26 wCd7_siz26 (Sees.of rfl) rfl rfl rfl)) rfl rfl rfl rfl) ?_
    refine dcons (CStep.step (PStep.c (p_assign (y := .emp) rfl (Sees.of rfl) rfl)) rfl rfl rfl rfl) ?_
    refine dcons (r_storeS rfl wCd7_siz26 rfl rfl rfl (Sees.of rfl) rfl (Sees.of rfl) rfl rfl rfl rfl) ?_
    refine dnil (by kernel_rfl) ?_
    refine f_ret ?_
    refine ends_ret (res_eq (res2 rfl (res_tmp rfl (Sees.emp rfl 1 di 0)) (res_cell (by rfl) rfl rfl wCd7_agg26 wCd7_siz26 rfl rfl)) ?_)
    rw [Sp.prOf, if_neg hc1]
    all_goals rfl
  · intro hc1
    try simp only [bs] at hc1
    obtain ⟨m, rfl⟩ : ∃ m : Nat, n = m := ⟨n.toNat, by have := (Sp.check_ok hc1).1; omega⟩
    obtain ⟨hro, hfl, hll, hm⟩ := Sp.fit_room hc1
    have hz := Sp.check_zero hc1
    refine f_skip ?_
    refine f_seq ?_
    refine f_region ?_
    refine scons (CStep.step (PStep.c (p_assign (y := .emp) rfl (Sees.of rfl) rfl)) rfl rfl rfl rfl) ?_
    refine snil ?_
    refine f_seq ?_
    refine f_seq ?_
    refine f_region ?_
    refine scons (CStep.step (PStep.c (p_assign (y := .val _) rfl (Sees.of rfl) rfl)) rfl rfl rfl rfl) ?_
    refine snil ?_
    refine f_block ?_
    refine f_loop (α := Nat × Nat) (fun (i, u) => i ≤ m) (fun (i, u) => [(6, iv ((i : Int) + 1)), (5, .row 30000 u), (30000, .arr u 3 1 8 di 0 (Sp.prTo ls i)), (1, .ref 10001 0 0), (2, .emp), (3, .ref 10003 0 0), (10001, .box 0 (.ccons (iv (m : Int)) (.ccons (.val (intss ls)) .cnil))), (10003, .box 0 (.ccons (iv 0) (.ccons (iv 0) .cnil)))]) (fun (i, u) => m - i) (0, 0) ?_ ?_ ?_
    · exact Nat.zero_le _
    · exact Le.trans (GLe.le (g_adopt (ob := 30000) (k := 5) 3 1 8 di 0 rfl rfl rfl rfl)) (le_ofL ⟨(by simp; rfl), rfl, rfl, rfl, rfl, rfl, rfl, rfl, trivial⟩ rfl)
    · rintro ⟨i, u⟩ hi
      have hi : i ≤ m := hi
      refine f_seq ?_
      refine f_seq ?_
      refine f_region ?_
      refine scons (CStep.step (PStep.c (p_move (y := .val _) rfl (Sees.of rfl) rfl)) rfl rfl rfl rfl) ?_
      refine scons (CStep.step (PStep.c (p_fieldRef rfl wCd7_fld39_0 wCd7_siz3 rfl (Sees.of rfl) rfl)) rfl rfl rfl rfl) ?_
      refine scons (CStep.step (PStep.c (p_loadB (y := .val _) rfl wCd7_agg3 (Sees.of rfl) rfl rfl rfl rfl)) rfl rfl rfl rfl) ?_
      refine scons (CStep.step (PStep.c (p_leq rfl (Sees.of rfl) (Sees.of rfl))) rfl rfl rfl rfl) ?_
      refine snil ?_
      refine f_cond rfl ?_ ?_
      · intro hc2
        try simp only [bs] at hc2
        have hpl := Sp.prTo_len ls i
        refine f_skip ?_
        refine f_seq ?_
        refine f_block ?_
        refine f_seq ?_
        refine f_region ?_
        refine scons (CStep.step (PStep.c (p_move (y := .val _) rfl (Sees.of rfl) rfl)) rfl rfl rfl rfl) ?_
        refine scons (CStep.step (PStep.c (p_move (y := .val _) rfl (Sees.of rfl) rfl)) rfl rfl rfl rfl) ?_
        refine scons (CStep.step (PStep.c (p_neg rfl (Sees.of rfl) (by omega))) rfl rfl rfl rfl) ?_
        refine scons (CStep.step (c_buildSlice (f := di) (za := 0) (xs := [.tmp 21, .tmp 23]) rfl rfl wCd7_isl33 wCd7_siz3 wCd7_zer3 rfl rfl ⟨_, _, rfl, (Sees.of rfl), rfl, rfl, ⟨_, _, rfl, (Sees.of rfl), rfl, rfl, rfl⟩⟩) rfl rfl rfl rfl) ?_
        refine scons (CStep.step (PStep.c (p_len rfl wCd7_isl33 (Sees.of rfl))) rfl rfl rfl rfl) ?_
        refine scons (CStep.step (PStep.c (p_move (y := .val _) rfl (Sees.of rfl) rfl)) rfl rfl rfl rfl) ?_
        refine snil ?_
        refine f_block ?_
        refine f_loop (α := Nat × Nat) (fun (j, w) => j ≤ 2) (fun (j, w) => [(24, .val (ints [((i : Int) + 1), -((i : Int) + 1)])), (25, iv 2), (26, iv j), (6, iv ((i : Int) + 1)), (5, .row 30000 w), (30000, .arr w 3 1 8 di 0 (Sp.prTo ls i ++ Sp.prIn ls ((i : Int) + 1) j)), (1, .ref 10001 0 0), (2, .emp), (3, .ref 10003 0 0), (10001, .box 0 (.ccons (iv (m : Int)) (.ccons (.val (intss ls)) .cnil))), (10003, .box 0 (.ccons (iv 0) (.ccons (iv 0) .cnil)))]) (fun (j, w) => 2 - j) (0, u) ?_ ?_ ?_
        · exact Nat.zero_le _
        · exact le_ofL ⟨rfl, rfl, rfl, rfl, rfl, (by show _ = AV.arr _ _ _ _ _ _ (Sp.prTo ls i ++ []); rw [List.append_nil]; rfl), rfl, rfl, rfl, rfl, rfl, trivial⟩ rfl
        · rintro ⟨j, w⟩ hj
          have hj : j ≤ 2 := hj
          refine f_seq ?_
          refine f_region ?_
          refine scons (CStep.step (PStep.c (p_lss rfl (Sees.of rfl) (Sees.of rfl))) rfl rfl rfl rfl) ?_
          refine snil ?_
          refine f_seq ?_
          refine f_cond rfl ?_ ?_
          · intro hc3
            try simp only [bs] at hc3
            refine f_skip ?_
            refine f_seq ?_
            refine f_block ?_
            refine f_seq ?_
            have hj2 : j < 2 := by omega
            have hpi := Sp.prIn_len ls ((i : Int) + 1) j
            have hxb : -1000 ≤ ([((i : Int) + 1), -((i : Int) + 1)].getD j 0) ∧ ([((i : Int) + 1), -((i : Int) + 1)].getD j 0) ≤ 1000 := by
              have h : j = 0 ∨ j = 1 := by omega
              rcases h with rfl | rfl
              · show -1000 ≤ ((i : Int) + 1) ∧ ((i : Int) + 1) ≤ 1000
                omega
              · show -1000 ≤ -((i : Int) + 1) ∧ -((i : Int) + 1) ≤ 1000
                omega
            refine f_region ?_
            refine scons (CStep.step (PStep.c ((by first | exact p_indexN rfl wCd7_isl33 wCd7_siz3 (Sees.of rfl) (Sees.of rfl) (by omega) | exact p_index rfl wCd7_isl33 wCd7_siz3 (Sees.of rfl) (Sees.of rfl) (by omega) (by omega)))) rfl rfl rfl rfl) ?_
            refine scons (CStep.step (PStep.c (p_load rfl wCd7_agg3 (Sees.of rfl) rfl)) rfl rfl rfl rfl) ?_
            refine scons (CStep.step (PStep.c (p_assign (y := .val _) rfl (Sees.of rfl) rfl)) rfl rfl rfl rfl) ?_
            refine snil ?_
            refine f_seq ?_
            refine f_region ?_
            refine scons (CStep.step (PStep.c (p_fieldRef rfl wCd7_fld39_1 wCd7_siz37 rfl (Sees.of rfl) rfl)) rfl rfl rfl rfl) ?_
            refine scons (CStep.step (PStep.c (p_loadB (y := .val _) rfl wCd7_agg37 (Sees.of rfl) rfl rfl rfl rfl)) rfl rfl rfl rfl) ?_
            refine scons (CStep.step (PStep.c (p_move (y := .val _) rfl (Sees.of rfl) rfl)) rfl rfl rfl rfl) ?_
            refine scons (CStep.step (c_buildSlice (f := di) (za := 0) (xs := [.tmp 32]) rfl rfl wCd7_isl33 wCd7_siz3 wCd7_zer3 rfl rfl ⟨_, _, rfl, (Sees.of rfl), rfl, rfl, rfl⟩) rfl rfl rfl rfl) ?_
            refine scons (CStep.step (c_call rfl wCd7_isf80 ⟨_, _, rfl, (Sees.of rfl), rfl, ⟨_, _, rfl, (Sees.of rfl), rfl, rfl⟩⟩ (Falls_spec ls [([((i : Int) + 1), -((i : Int) + 1)].getD j 0)] hro (fun y hy => by rw [List.mem_singleton.1 hy]; omega) (by simp) hfl (by omega))) rfl rfl rfl rfl) ?_
            refine snil ?_
            refine f_cond rfl ?_ ?_
            · intro hc4
              try simp only [bs] at hc4
              refine f_region ?_
              refine scons (CStep.step (PStep.c (p_move (y := .row _ _) rfl (Sees.of rfl) rfl)) rfl rfl rfl rfl) ?_
              refine scons (CStep.step (PStep.c (p_move (y := .val _) rfl (Sees.of rfl) rfl)) rfl rfl rfl rfl) ?_
              refine scons (CStep.step (c_buildSlice (f := di) (za := 0) (xs := [.tmp 36]) rfl rfl wCd7_isl33 wCd7_siz3 wCd7_zer3 rfl rfl ⟨_, _, rfl, (Sees.of rfl), rfl, rfl, rfl⟩) rfl rfl rfl rfl) ?_
              refine scons (r_appendR (ob := 30000) rfl wCd7_isl33 wCd7_siz3 wCd7_byt3 wCd7_zer3 rfl rfl (Sees.of rfl) rfl (Sees.of rfl) (by simp only [List.length_append, List.length_cons, List.length_nil]; omega) (by simp only [List.length_append, List.length_cons, List.length_nil]; omega) rfl rfl rfl rfl rfl) ?_
              refine scons (CStep.step (PStep.c (p_assign (y := .row _ _) rfl (Sees.of rfl) rfl)) rfl rfl rfl rfl) ?_
              refine snil ?_
              refine f_nil ?_
              show AWs _ _ _ _ _
              refine f_region ?_
              refine scons (CStep.step (PStep.c (p_add rfl (Sees.of rfl) (Sees.of rfl) (by omega))) rfl rfl rfl rfl) ?_
              refine scons (CStep.step (PStep.c (p_move (y := .val _) rfl (Sees.of rfl) rfl)) rfl rfl rfl rfl) ?_
              refine snil ?_
              refine f_back ⟨(j + 1, w + 1), ?_, ?_, le_ofL ⟨rfl, rfl, rfl, rfl, rfl, (by rw [Sp.prIn_yes hj2 (decide_eq_true hc4), ← List.append_assoc]; rfl), rfl, rfl, rfl, rfl, rfl, trivial⟩ rfl⟩
              · show j + 1 ≤ 2
                omega
              · show 2 - (j + 1) < 2 - j
                omega
            · intro hc4
              try simp only [bs] at hc4
              refine f_skip ?_
              refine f_nil ?_
              show AWs _ _ _ _ _
              refine f_region ?_
              refine scons (CStep.step (PStep.c (p_add rfl (Sees.of rfl) (Sees.of rfl) (by omega))) rfl rfl rfl rfl) ?_
              refine scons (CStep.step (PStep.c (p_move (y := .val _) rfl (Sees.of rfl) rfl)) rfl rfl rfl rfl) ?_
              refine snil ?_
              refine f_back ⟨(j + 1, w), ?_, ?_, le_ofL ⟨rfl, rfl, rfl, rfl, rfl, (by rw [Sp.prIn_no hj2 (decide_eq_false (fun h => by omega))]; rfl), rfl, rfl, rfl, rfl, rfl, trivial⟩ rfl⟩
              · show j + 1 ≤ 2
                omega
              · show 2 - (j + 1) < 2 - j
                omega
          · intro hc3
            try simp only [bs] at hc3
            refine f_exit ?_
            show AWs _ _ _ _ _
            refine f_nil ?_
            show AWs _ _ _ _ _
            refine f_region ?_
            refine scons (CStep.step (PStep.c (p_move (y := .val _) rfl (Sees.of rfl) rfl)) rfl rfl rfl rfl) ?_
            refine scons (CStep.step (PStep.c (p_add rfl (Sees.of rfl) (Sees.of rfl) (by omega))) rfl rfl rfl rfl) ?_
            refine scons (CStep.step (PStep.c (p_assign (y := .val _) rfl (Sees.of rfl) rfl)) rfl rfl rfl rfl) ?_
            refine snil ?_
            refine f_back ⟨(i + 1, w), ?_, ?_, le_ofL ⟨(by show AV.val (.int .i64 ((i : Int) + 1 + 1)) = _; exact congrArg (fun q => AV.val (.int .i64 q)) (by omega)), rfl, (by rw [show j = 2 by omega]; rfl), rfl, rfl, rfl, rfl, rfl, trivial⟩ rfl⟩
            · show i + 1 ≤ m
              omega
            · show m - (i + 1) < m - i
              omega
      · intro hc2
        try simp only [bs] at hc2
        refine f_exit ?_
        show AWs _ _ _ _ _
        refine f_seq ?_
        obtain rfl : i = m := by omega
        refine f_region ?_
        refine scons (CStep.step (PStep.c (p_move (y := .row _ _) rfl (Sees.of rfl) rfl)) rfl rfl rfl rfl) ?_
        refine scons (CStep.step (PStep.c (p_build rfl wCd7_plc26 wCd7_zer26 (by decide) wCd7_zch26 rfl rfl)) rfl rfl rfl rfl) ?_
        refine scons (CStep.step (PStep.c (p_assign (y := .row _ _) rfl (Sees.of rfl) rfl)) rfl rfl rfl rfl) ?_
        refine scons (r_storeS rfl wCd7_siz26 rfl rfl rfl (Sees.of rfl) rfl (Sees.of rfl) rfl rfl rfl rfl) ?_
        refine snil ?_
        refine f_ret ?_
        refine ends_ret (res_eq (res2 rfl (res_row rfl rfl rfl) (res_cell (by rfl) rfl rfl wCd7_agg26 wCd7_siz26 rfl rfl)) ?_)
        rw [Sp.prOf, if_pos hc1, Int.toNat_natCast, hz]
        rfl

set_option maxHeartbeats 1000000 in
theorem CdclFirst_spec (n : Int) (ls : List (List Int)) (a b c d : Int) :
    Spec Go.Proofs.Try.prog 8 [.val (cnf n ls), .val (opts a b c d)] (D.bool true) := by
  refine spec_of' Go.Proofs.Try.func8 rfl Go.Proofs.Try.ntmps8 rfl ?_
  refine f_seq ?_
  refine f_region ?_
  refine scons (r_box (ob := 10002) rfl (Sees.of rfl) rfl rfl rfl rfl rfl rfl) ?_
  refine scons (r_box (ob := 10003) rfl (Sees.of rfl) rfl rfl rfl rfl rfl rfl) ?_
  refine scons (CStep.step (PStep.c (p_assign (y := .val _) rfl (Sees.of rfl) rfl)) rfl rfl rfl rfl) ?_
  refine snil ?_
  refine f_seq ?_
  refine f_seq ?_
  refine f_region ?_
  refine scons (CStep.step (PStep.c (p_loadBS rfl wCd7_agg39 wCd7_siz39 (Sees.of rfl) rfl rfl rfl)) rfl rfl rfl rfl) ?_
  refine scons (CStep.step (c_call rfl wCd7_isf23 ⟨_, _, rfl, (Sees.of rfl), rfl, rfl⟩ (heavy_spec n ls)) rfl rfl rfl rfl) ?_
  refine scons (CStep.step (PStep.c (p_move (y := .val _) rfl (Sees.of rfl) rfl)) rfl rfl rfl rfl) ?_
  refine scons (CStep.guard rfl rfl rfl (fun hg0 => PStep.c (p_loadBS rfl wCd7_agg39 wCd7_siz39 (Sees.of rfl) rfl rfl rfl)) rfl rfl rfl rfl rfl) ?_
  refine scons (CStep.guard rfl rfl rfl (fun hg0 => PStep.c (p_loadBS rfl wCd7_agg41 wCd7_siz41 (Sees.of rfl) rfl rfl rfl)) rfl rfl rfl rfl rfl) ?_
  refine scons (CStep.guard rfl rfl rfl (fun hg0 => c_call rfl wCd7_isf19 ⟨_, _, rfl, (Sees.gv' rfl hg0), rfl, ⟨_, _, rfl, (Sees.emp rfl _ _ _), rfl, ⟨_, _, rfl, (Sees.gv' rfl hg0), rfl, ⟨_, _, rfl, (Sees.of rfl), rfl, rfl⟩⟩⟩⟩ (cdclFault_spec n ls [] a b c d 0)) rfl rfl rfl rfl rfl) ?_
  refine scons (CStep.guard rfl rfl rfl (fun hg0 => PStep.c (p_field rfl wCd7_fld26_0 wCd7_agg3 (Sees.gv' rfl hg0) rfl)) rfl rfl rfl rfl rfl) ?_
  refine scons (CStep.guard rfl rfl rfl (fun hg0 => PStep.c (p_neq rfl (Sees.gv' rfl hg0) (Sees.of rfl))) rfl rfl rfl rfl rfl) ?_
  refine scons (CStep.step (PStep.c (p_or rfl (Sees.of rfl) (Sees.of rfl) (fun h => Sees.gv' rfl (beq_of_eq h)))) rfl rfl rfl rfl) ?_
  refine snil ?_
  refine f_cond rfl ?_ ?_
  · intro hc1
    try simp only [bs] at hc1
    refine f_seq ?_
    refine f_region ?_
    refine scons (CStep.step (PStep.c (p_assign (y := .val _) rfl (Sees.of rfl) rfl)) rfl rfl rfl rfl) ?_
    refine snil ?_
    refine f_ret ?_
    refine ends_ret (res_eq (res1 rfl (res_tmp rfl (Sees.of rfl))) ?_)
    rfl
  · intro hc1
    try simp only [bs] at hc1
    obtain ⟨m, rfl, hfit, hbe, hopt⟩ := Sp.cdF_ok hc1.2
    have hgo := Sp.doOf_go hbe (Sp.opt_more hopt (g := 2000) (by omega))
    have htwo := Sp.do_two (ph := decide (d = 1)) hfit (by omega) (by omega)
    have hck := Sp.check_of_beside hbe
    have hz := Sp.check_zero hck
    have hpr : (Sp.prOf m ls) = Sp.prTo ls m := by rw [Sp.prOf, if_pos hck, Int.toNat_natCast]
    have hpl := Sp.prTo_len ls m
    rw [← hpr] at hpl
    refine f_skip ?_
    refine f_seq ?_
    refine f_region ?_
    refine scons (CStep.step (PStep.c (p_loadBS rfl wCd7_agg39 wCd7_siz39 (Sees.of rfl) rfl rfl rfl)) rfl rfl rfl rfl) ?_
    refine scons (CStep.step (PStep.c (p_loadBS rfl wCd7_agg41 wCd7_siz41 (Sees.of rfl) rfl rfl rfl)) rfl rfl rfl rfl) ?_
    refine scons (CStep.step (c_call rfl wCd7_isf21 ⟨_, _, rfl, (Sees.of rfl), rfl, ⟨_, _, rfl, (Sees.emp rfl _ _ _), rfl, ⟨_, _, rfl, (Sees.of rfl), rfl, ⟨_, _, rfl, (Sees.of rfl), rfl, rfl⟩⟩⟩⟩ (Do_spec m ls [] a b c d 2000)) rfl rfl rfl rfl) ?_
    refine scons (CStep.step (PStep.c (p_move (y := .val _) rfl (Sees.of rfl) rfl)) rfl rfl rfl rfl) ?_
    refine scons (CStep.step (PStep.c (p_extract rfl (Sees.of rfl) rfl)) rfl rfl rfl rfl) ?_
    refine scons (CStep.step (PStep.c (p_extract rfl (Sees.of rfl) rfl)) rfl rfl rfl rfl) ?_
    refine scons (r_alloc (ob := 10005) rfl wCd7_zer46 rfl rfl rfl rfl rfl rfl) ?_
    refine scons (r_alloc (ob := 10006) rfl wCd7_zer26 rfl rfl rfl rfl rfl rfl) ?_
    refine scons (r_storeS rfl wCd7_siz46 rfl rfl rfl (Sees.of rfl) rfl (Sees.of rfl) rfl rfl rfl rfl) ?_
    refine scons (r_storeS rfl wCd7_siz26 rfl rfl rfl (Sees.of rfl) rfl (Sees.of rfl) rfl rfl rfl rfl) ?_
    refine snil ?_
    refine f_seq ?_
    refine f_region ?_
    refine scons (CStep.step (PStep.c (p_loadBS rfl wCd7_agg39 wCd7_siz39 (Sees.of rfl) rfl rfl rfl)) rfl rfl rfl rfl) ?_
    refine scons (CStep.step (c_call rfl wCd7_isf28 ⟨_, _, rfl, (Sees.of rfl), rfl, rfl⟩ (Probe_spec m ls)) rfl rfl rfl rfl) ?_
    refine scons (CStep.step (PStep.c (p_move (y := .val _) rfl (Sees.of rfl) rfl)) rfl rfl rfl rfl) ?_
    refine scons (CStep.step (PStep.c (p_extract rfl (Sees.of rfl) rfl)) rfl rfl rfl rfl) ?_
    refine scons (CStep.step (PStep.c (p_extract rfl (Sees.of rfl) rfl)) rfl rfl rfl rfl) ?_
    refine scons (r_alloc (ob := 10008) rfl wCd7_zer26 rfl rfl rfl rfl rfl rfl) ?_
    refine scons (CStep.step (PStep.c (p_assign (y := .val _) rfl (Sees.of rfl) rfl)) rfl rfl rfl rfl) ?_
    refine scons (r_storeS rfl wCd7_siz26 rfl rfl rfl (Sees.of rfl) rfl (Sees.of rfl) rfl rfl rfl rfl) ?_
    refine snil ?_
    refine f_seq ?_
    refine f_seq ?_
    refine f_region ?_
    refine scons (CStep.step (PStep.c (p_fieldRef rfl wCd7_fld26_0 wCd7_siz3 rfl (Sees.of rfl) rfl)) rfl rfl rfl rfl) ?_
    refine scons (CStep.step (PStep.c (p_loadB (y := .val _) rfl wCd7_agg3 (Sees.of rfl) rfl rfl rfl rfl)) rfl rfl rfl rfl) ?_
    refine scons (CStep.step (PStep.c (p_neq rfl (Sees.of rfl) (Sees.of rfl))) rfl rfl rfl rfl) ?_
    refine scons (CStep.step (PStep.c (p_move (y := .val _) rfl (Sees.of rfl) rfl)) rfl rfl rfl rfl) ?_
    refine scons (CStep.guard rfl rfl rfl (fun hg0 => PStep.c (p_fieldRef rfl wCd7_fld26_0 wCd7_siz3 rfl (Sees.of rfl) rfl)) rfl rfl rfl rfl rfl) ?_
    refine scons (CStep.guard rfl rfl rfl (fun hg0 => PStep.c (p_loadB (y := .val _) rfl wCd7_agg3 (Sees.gv' rfl hg0) rfl rfl rfl rfl)) rfl rfl rfl rfl rfl) ?_
    refine scons (CStep.guard rfl rfl rfl (fun hg0 => PStep.c (p_neq rfl (Sees.gv' rfl hg0) (Sees.of rfl))) rfl rfl rfl rfl rfl) ?_
    refine scons (CStep.step (PStep.c (p_or rfl (Sees.of rfl) (Sees.of rfl) (fun h => Sees.gv' rfl (beq_of_eq h)))) rfl rfl rfl rfl) ?_
    refine scons (CStep.step (PStep.c (p_move (y := .val _) rfl (Sees.of rfl) rfl)) rfl rfl rfl rfl) ?_
    refine scons (CStep.guard rfl rfl rfl (fun hg0 => c_call rfl wCd7_isf20 rfl (sure_spec)) rfl rfl rfl rfl rfl) ?_
    refine scons (CStep.guard rfl rfl rfl (fun hg0 => PStep.c (p_not rfl (Sees.gv' rfl hg0))) rfl rfl rfl rfl rfl) ?_
    refine scons (CStep.step (PStep.c (p_or rfl (Sees.of rfl) (Sees.of rfl) (fun h => Sees.gv' rfl (beq_of_eq h)))) rfl rfl rfl rfl) ?_
    refine snil ?_
    refine f_cond rfl ?_ ?_
    · intro hc2
      try simp only [bs] at hc2
      exfalso
      rw [hgo, hz] at hc2
      simp at hc2
    · intro hc2
      try simp only [bs] at hc2
      refine f_skip ?_
      refine f_seq ?_
      refine f_seq ?_
      refine f_region ?_
      refine scons (CStep.step (PStep.c (p_fieldRef rfl wCd7_fld46_0 wCd7_siz3 rfl (Sees.of rfl) rfl)) rfl rfl rfl rfl) ?_
      refine scons (CStep.step (PStep.c (p_loadB (y := .val _) rfl wCd7_agg3 (Sees.of rfl) rfl rfl rfl rfl)) rfl rfl rfl rfl) ?_
      refine scons (CStep.step (PStep.c (p_neq rfl (Sees.of rfl) (Sees.of rfl))) rfl rfl rfl rfl) ?_
      refine snil ?_
      refine f_cond rfl ?_ ?_
      · intro hc3
        try simp only [bs] at hc3
        refine f_seq ?_
        refine f_region ?_
        refine scons (CStep.step (PStep.c (p_fieldRef rfl wCd7_fld46_0 wCd7_siz3 rfl (Sees.of rfl) rfl)) rfl rfl rfl rfl) ?_
        refine scons (CStep.step (PStep.c (p_loadB (y := .val _) rfl wCd7_agg3 (Sees.of rfl) rfl rfl rfl rfl)) rfl rfl rfl rfl) ?_
        refine scons (CStep.step (PStep.c (p_eql rfl (Sees.of rfl) (Sees.of rfl))) rfl rfl rfl rfl) ?_
        refine scons (CStep.step (PStep.c (p_assign (y := .val _) rfl (Sees.of rfl) rfl)) rfl rfl rfl rfl) ?_
        refine snil ?_
        refine f_ret ?_
        refine ends_ret (res_eq (res1 rfl (res_tmp rfl (Sees.of rfl))) ?_)
        rw [hgo] at hc3 ⊢
        rcases htwo with h | h
        · exact absurd h.st hc3
        · rw [h.st]
          rfl
      · intro hc3
        try simp only [bs] at hc3
        have hy : Sp.OutY m ls [] (Sp.doA m ls [] (decide (d = 1)) 2000) := htwo.resolve_right (fun h => by rw [hgo] at hc3; have := h.st; rw [hc3] at this; cases this)
        have hhl : (Sp.doOf m ls [] a b c d 2000).1.2.1.length = m := by rw [hgo]; exact hy.len
        refine f_skip ?_
        refine f_seq ?_
        refine f_seq ?_
        refine f_region ?_
        refine scons (CStep.step (PStep.c (p_fieldRef rfl wCd7_fld46_1 wCd7_siz24 rfl (Sees.of rfl) rfl)) rfl rfl rfl rfl) ?_
        refine scons (CStep.step (PStep.c (p_loadB (y := .val _) rfl wCd7_agg24 (Sees.of rfl) rfl rfl rfl rfl)) rfl rfl rfl rfl) ?_
        refine scons (CStep.step (PStep.c (p_len rfl wCd7_isl24 (Sees.of rfl))) rfl rfl rfl rfl) ?_
        refine scons (CStep.step (PStep.c (p_fieldRef rfl wCd7_fld39_0 wCd7_siz3 rfl (Sees.of rfl) rfl)) rfl rfl rfl rfl) ?_
        refine scons (CStep.step (PStep.c (p_loadB (y := .val _) rfl wCd7_agg3 (Sees.of rfl) rfl rfl rfl rfl)) rfl rfl rfl rfl) ?_
        refine scons (CStep.step (PStep.c (p_neq rfl (Sees.of rfl) (Sees.of rfl))) rfl rfl rfl rfl) ?_
        refine snil ?_
        refine f_cond rfl ?_ ?_
        · intro hc4
          try simp only [bs] at hc4
          exact absurd (by rw [hhl]) hc4
        · intro hc4
          try simp only [bs] at hc4
          refine f_skip ?_
          refine f_seq ?_
          refine f_seq ?_
          refine f_region ?_
          refine scons (CStep.step (PStep.c (p_assign (y := .val _) rfl (Sees.of rfl) rfl)) rfl rfl rfl rfl) ?_
          refine snil ?_
          refine f_block ?_
          refine f_loop (α := Nat) (fun i => i ≤ (Sp.prOf m ls).length) (fun i => [(2, .ref 10002 0 0), (10002, .box 0 (.ccons (iv m) (.ccons (.val (intss ls)) .cnil))), (5, .ref 10005 0 0), (10005, .box 0 (.ccons (iv (Sp.doOf m ls [] a b c d 2000).1.1) (.ccons (.val (bools (Sp.doOf m ls [] a b c d 2000).1.2.1)) (.ccons (.val (stps (lrn (Sp.doOf m ls [] a b c d 2000).1.2.2.1))) (.ccons (.val (ints (Sp.doOf m ls [] a b c d 2000).1.2.2.2.1)) (.ccons (iv (Sp.doOf m ls [] a b c d 2000).1.2.2.2.2) .cnil)))))), (7, .val (ints (Sp.prOf m ls))), (9, iv i)]) (fun i => (Sp.prOf m ls).length - i) 0 ?_ ?_ ?_
          · exact Nat.zero_le _
          · exact le_ofL ⟨rfl, rfl, rfl, rfl, rfl, rfl, trivial⟩ rfl
          · rintro i hi
            refine f_seq ?_
            refine f_seq ?_
            refine f_region ?_
            refine scons (CStep.step (PStep.c (p_move (y := .val _) rfl (Sees.of rfl) rfl)) rfl rfl rfl rfl) ?_
            refine scons (CStep.step (PStep.c (p_move (y := .val _) rfl (Sees.of rfl) rfl)) rfl rfl rfl rfl) ?_
            refine scons (CStep.step (PStep.c (p_len rfl wCd7_isl33 (Sees.of rfl))) rfl rfl rfl rfl) ?_
            refine scons (CStep.step (PStep.c (p_lss rfl (Sees.of rfl) (Sees.of rfl))) rfl rfl rfl rfl) ?_
            refine snil ?_
            refine f_cond rfl ?_ ?_
            · intro hc5
              try simp only [bs] at hc5
              refine f_skip ?_
              refine f_seq ?_
              refine f_block ?_
              refine f_seq ?_
              have hpx := Sp.prTo_mem (ls := ls) (i := m) (x := (Sp.prOf m ls).getD i 0) (by rw [← hpr]; exact Sp.getD_mem _ i 0 (by omega))
              have hps : Sp.sat (Sp.doOf m ls [] a b c d 2000).1.2.1 [(Sp.prOf m ls).getD i 0] = true := by rw [hgo]; exact Sp.prF_sound (fun q hq x hx => ((hfit.cl q hq).1 x hx).1) hpx.1.1 hpx.2 hy.ls
              refine f_draw wCd7_mix (by kernel_rfl) ?_
              refine dcons (CStep.step (PStep.c (p_move (y := .val _) rfl (Sees.of rfl) rfl)) rfl rfl rfl rfl) ?_
              refine dcons (CStep.step (PStep.c (p_move (y := .val _) rfl (Sees.of rfl) rfl)) rfl rfl rfl rfl) ?_
              refine dcons (CStep.step (PStep.c ((by first | exact p_indexN rfl wCd7_isl33 wCd7_siz3 (Sees.of rfl) (Sees.of rfl) (by omega) | exact p_index rfl wCd7_isl33 wCd7_siz3 (Sees.of rfl) (Sees.of rfl) (by omega) (by omega)))) rfl rfl rfl rfl) ?_
              refine dcons (CStep.step (PStep.c (p_load rfl wCd7_agg3 (Sees.of rfl) rfl)) rfl rfl rfl rfl) ?_
              refine dcons (CStep.step (PStep.c (p_eql rfl (Sees.of rfl) (Sees.of rfl))) rfl rfl rfl rfl) ?_
              refine dcons (CStep.step (PStep.c (p_move (y := .val _) rfl (Sees.of rfl) rfl)) rfl rfl rfl rfl) ?_
              refine dcons (CStep.guard rfl rfl rfl (fun hg0 => PStep.c (p_move (y := .val _) rfl (Sees.of rfl) rfl)) rfl rfl rfl rfl rfl) ?_
              refine dcons (CStep.guard rfl rfl rfl (fun hg0 => PStep.c (p_move (y := .val _) rfl (Sees.of rfl) rfl)) rfl rfl rfl rfl rfl) ?_
              refine dcons (CStep.guard rfl rfl rfl (fun hg0 => by have hp0 := hg0; (try simp only [bs] at hp0); exact PStep.c ((by first | exact p_indexN rfl wCd7_isl33 wCd7_siz3 (Sees.gv' rfl hg0) (Sees.gv' rfl hg0) (by omega) | exact p_index rfl wCd7_isl33 wCd7_siz3 (Sees.gv' rfl hg0) (Sees.gv' rfl hg0) (by omega) (by omega)))) rfl rfl rfl rfl rfl) ?_
              refine dcons (CStep.guard rfl rfl rfl (fun hg0 => PStep.c (p_load rfl wCd7_agg3 (Sees.gv' rfl hg0) rfl)) rfl rfl rfl rfl rfl) ?_
              refine dcons (CStep.guard rfl rfl rfl (fun hg0 => by have hp0 := hg0; (try simp only [bs] at hp0); exact c_call rfl wCd7_isf29 ⟨_, _, rfl, (Sees.gv' rfl hg0), rfl, rfl⟩ (of_spec ((Sp.prOf m ls).getD i 0) (by omega))) rfl rfl rfl rfl rfl) ?_
              refine dcons (CStep.guard rfl rfl rfl (fun hg0 => PStep.c (p_fieldRef rfl wCd7_fld39_0 wCd7_siz3 rfl (Sees.of rfl) rfl)) rfl rfl rfl rfl rfl) ?_
              refine dcons (CStep.guard rfl rfl rfl (fun hg0 => PStep.c (p_loadB (y := .val _) rfl wCd7_agg3 (Sees.gv' rfl hg0) rfl rfl rfl rfl)) rfl rfl rfl rfl rfl) ?_
              refine dcons (CStep.guard rfl rfl rfl (fun hg0 => PStep.c (p_gtr rfl (Sees.gv' rfl hg0) (Sees.gv' rfl hg0))) rfl rfl rfl rfl rfl) ?_
              refine dcons (CStep.step (PStep.c (p_or rfl (Sees.of rfl) (Sees.of rfl) (fun h => Sees.gv' rfl (beq_of_eq h)))) rfl rfl rfl rfl) ?_
              refine dcons (CStep.step (PStep.c (p_move (y := .val _) rfl (Sees.of rfl) rfl)) rfl rfl rfl rfl) ?_
              refine dcons (CStep.guard rfl rfl rfl (fun hg0 => PStep.c (p_fieldRef rfl wCd7_fld46_1 wCd7_siz24 rfl (Sees.of rfl) rfl)) rfl rfl rfl rfl rfl) ?_
              refine dcons (CStep.guard rfl rfl rfl (fun hg0 => PStep.c (p_loadB (y := .val _) rfl wCd7_agg24 (Sees.gv' rfl hg0) rfl rfl rfl rfl)) rfl rfl rfl rfl rfl) ?_
              refine dcons (CStep.guard rfl rfl rfl (fun hg0 => PStep.c (p_move (y := .val _) rfl (Sees.of rfl) rfl)) rfl rfl rfl rfl rfl) ?_
              refine dcons (CStep.guard rfl rfl rfl (fun hg0 => PStep.c (p_move (y := .val _) rfl (Sees.of rfl) rfl)) rfl rfl rfl rfl rfl) ?_
              refine dcons (CStep.guard rfl rfl rfl (fun hg0 => PStep.c (p_move (y := .val _) rfl (Sees.of rfl) rfl)) rfl rfl rfl rfl rfl) ?_
              refine dcons (CStep.guard rfl rfl rfl (fun hg0 => by have hp0 := hg0; (try simp only [bs] at hp0); exact PStep.c (p_add rfl (Sees.gv' rfl hg0) (Sees.of rfl) (by omega))) rfl rfl rfl rfl rfl) ?_
              refine dcons (CStep.guard rfl rfl rfl (fun hg0 => by have hp0 := hg0; (try simp only [bs] at hp0); exact PStep.c (p_slice (l := i) (h := i + 1) rfl wCd7_isl33 wCd7_siz3 (Sees.gv' rfl hg0) (Sees.gv' rfl hg0) (Sees.gv' rfl hg0) (by omega) (by omega))) rfl rfl rfl rfl rfl) ?_
              refine dcons (CStep.guard rfl rfl rfl (fun hg0 => by have hp0 := hg0; (try simp only [bs] at hp0); exact c_call rfl wCd7_isf30 ⟨_, _, rfl, (Sees.gv' rfl hg0), rfl, ⟨_, _, rfl, (Sees.gv' rfl hg0), rfl, rfl⟩⟩ (sat_spec (Sp.doOf m ls [] a b c d 2000).1.2.1 (((Sp.prOf m ls).drop i).take (i + 1 - i)) (by rw [hhl, Sp.slice_one (by omega)]; intro x hx; rw [List.mem_singleton.1 hx]; exact hpx.1))) rfl rfl rfl rfl rfl) ?_
              refine dcons (CStep.guard rfl rfl rfl (fun hg0 => PStep.c (p_not rfl (Sees.gv' rfl hg0))) rfl rfl rfl rfl rfl) ?_
              refine dcons (CStep.step (PStep.c (p_or rfl (Sees.of rfl) (Sees.of rfl) (fun h => Sees.gv' rfl (beq_of_eq h)))) rfl rfl rfl rfl) ?_
              refine dnil (by kernel_rfl) ?_
              refine f_cond rfl ?_ ?_
              · intro hc6
                try simp only [bs] at hc6
                exfalso
                rw [Sp.slice_one (by omega), hps] at hc6
                rcases hc6 with (h | h) | h
                · exact hpx.1.1 h
                · unfold Sp.av at h; omega
                · cases h
              · intro hc6
                try simp only [bs] at hc6
                refine f_skip ?_
                refine f_nil ?_
                show AWs _ _ _ _ _
                refine f_region ?_
                refine scons (CStep.step (PStep.c (p_move (y := .val _) rfl (Sees.of rfl) rfl)) rfl rfl rfl rfl) ?_
                refine scons (CStep.step (PStep.c (p_add rfl (Sees.of rfl) (Sees.of rfl) (by omega))) rfl rfl rfl rfl) ?_
                refine scons (CStep.step (PStep.c (p_assign (y := .val _) rfl (Sees.of rfl) rfl)) rfl rfl rfl rfl) ?_
                refine snil ?_
                refine f_back ⟨i + 1, ?_, ?_, le_ofL ⟨rfl, rfl, rfl, rfl, rfl, rfl, trivial⟩ rfl⟩
                · omega
                · omega
            · intro hc5
              try simp only [bs] at hc5
              refine f_exit ?_
              show AWs _ _ _ _ _
              refine f_seq ?_
              refine f_region ?_
              refine scons (CStep.step (PStep.c (p_assign (y := .val _) rfl (Sees.of rfl) rfl)) rfl rfl rfl rfl) ?_
              refine snil ?_
              refine f_ret ?_
              refine ends_ret (res_eq (res1 rfl (res_tmp rfl (Sees.of rfl))) ?_)
              rfl

end Go.Um
