/- Walks of Go functions of this seat, each by its contract. No condition beyond what each theorem says. -/
import Derived.Test.YtofonmfoificjaaWFew
import Derived.Test.YtofonmfoificjaaSpQ
import Derived.Test.YtofonmfoificjaaLay
import Derived.Test.YtofonmfoificjaaProg
import Derived.KernelRfl
set_option maxRecDepth 4000
namespace Go.Um
open Go Go.RowKit

theorem wFew2_agg109 : IsAgg Go.Proofs.Try.prog 109 false := by unfold IsAgg; kernel_rfl
theorem wFew2_agg22 : IsAgg Go.Proofs.Try.prog 22 false := by unfold IsAgg; kernel_rfl
theorem wFew2_agg24 : IsAgg Go.Proofs.Try.prog 24 true := by unfold IsAgg; kernel_rfl
theorem wFew2_agg25 : IsAgg Go.Proofs.Try.prog 25 false := by unfold IsAgg; kernel_rfl
theorem wFew2_agg28 : IsAgg Go.Proofs.Try.prog 28 true := by unfold IsAgg; kernel_rfl
theorem wFew2_agg3 : IsAgg Go.Proofs.Try.prog 3 false := by unfold IsAgg; kernel_rfl
theorem wFew2_agg31 : IsAgg Go.Proofs.Try.prog 31 false := by unfold IsAgg; kernel_rfl
theorem wFew2_agg4 : IsAgg Go.Proofs.Try.prog 4 false := by unfold IsAgg; kernel_rfl
theorem wFew2_byt25 : Bytes Go.Proofs.Try.prog 25 24 := by unfold Bytes; kernel_rfl
theorem wFew2_byt3 : Bytes Go.Proofs.Try.prog 3 8 := by unfold Bytes; kernel_rfl
theorem wFew2_byt4 : Bytes Go.Proofs.Try.prog 4 1 := by unfold Bytes; kernel_rfl
theorem wFew2_fld24_0 : IsField Go.Proofs.Try.prog 24 0 0 3 := by unfold IsField; kernel_rfl
theorem wFew2_fld24_1 : IsField Go.Proofs.Try.prog 24 1 1 22 := by unfold IsField; kernel_rfl
theorem wFew2_fld28_0 : IsField Go.Proofs.Try.prog 28 0 0 3 := by unfold IsField; kernel_rfl
theorem wFew2_int3 : IsInt Go.Proofs.Try.prog 3 .i64 := by unfold IsInt; kernel_rfl
theorem wFew2_int42 : IsInt Go.Proofs.Try.prog 42 .u64 := by unfold IsInt; kernel_rfl
theorem wFew2_isf103 : IsFn Go.Proofs.Try.prog 103 := by unfold IsFn; kernel_rfl
theorem wFew2_isf38 : IsFn Go.Proofs.Try.prog 38 := by unfold IsFn; kernel_rfl
theorem wFew2_isf49 : IsFn Go.Proofs.Try.prog 49 := by unfold IsFn; kernel_rfl
theorem wFew2_isf52 : IsFn Go.Proofs.Try.prog 52 := by unfold IsFn; kernel_rfl
theorem wFew2_isf53 : IsFn Go.Proofs.Try.prog 53 := by unfold IsFn; kernel_rfl
theorem wFew2_isf82 : IsFn Go.Proofs.Try.prog 82 := by unfold IsFn; kernel_rfl
theorem wFew2_isf83 : IsFn Go.Proofs.Try.prog 83 := by unfold IsFn; kernel_rfl
theorem wFew2_isf84 : IsFn Go.Proofs.Try.prog 84 := by unfold IsFn; kernel_rfl
theorem wFew2_isf85 : IsFn Go.Proofs.Try.prog 85 := by unfold IsFn; kernel_rfl
theorem wFew2_isf86 : IsFn Go.Proofs.Try.prog 86 := by unfold IsFn; kernel_rfl
theorem wFew2_isf87 : IsFn Go.Proofs.Try.prog 87 := by unfold IsFn; kernel_rfl
theorem wFew2_isf88 : IsFn Go.Proofs.Try.prog 88 := by unfold IsFn; kernel_rfl
theorem wFew2_isf89 : IsFn Go.Proofs.Try.prog 89 := by unfold IsFn; kernel_rfl
theorem wFew2_isf90 : IsFn Go.Proofs.Try.prog 90 := by unfold IsFn; kernel_rfl
theorem wFew2_isf93 : IsFn Go.Proofs.Try.prog 93 := by unfold IsFn; kernel_rfl
theorem wFew2_isf94 : IsFn Go.Proofs.Try.prog 94 := by unfold IsFn; kernel_rfl
theorem wFew2_isf95 : IsFn Go.Proofs.Try.prog 95 := by unfold IsFn; kernel_rfl
theorem wFew2_isl109 : IsSlice Go.Proofs.Try.prog 109 138 := by unfold IsSlice; kernel_rfl
theorem wFew2_isl22 : IsSlice Go.Proofs.Try.prog 22 25 := by unfold IsSlice; kernel_rfl
theorem wFew2_isl25 : IsSlice Go.Proofs.Try.prog 25 3 := by unfold IsSlice; kernel_rfl
theorem wFew2_isl31 : IsSlice Go.Proofs.Try.prog 31 4 := by unfold IsSlice; kernel_rfl
theorem wFew2_mix : (Go.Proofs.Try.prog).follows .mixedOrders = true := by kernel_rfl
theorem wFew2_plc28 : Places Go.Proofs.Try.prog 28 [(0, 1), (1, 1)] := by unfold Places; kernel_rfl
theorem wFew2_siz109 : Size Go.Proofs.Try.prog 109 1 := by unfold Size; kernel_rfl
theorem wFew2_siz22 : Size Go.Proofs.Try.prog 22 1 := by unfold Size; kernel_rfl
theorem wFew2_siz24 : Size Go.Proofs.Try.prog 24 2 := by unfold Size; kernel_rfl
theorem wFew2_siz25 : Size Go.Proofs.Try.prog 25 1 := by unfold Size; kernel_rfl
theorem wFew2_siz28 : Size Go.Proofs.Try.prog 28 2 := by unfold Size; kernel_rfl
theorem wFew2_siz3 : Size Go.Proofs.Try.prog 3 1 := by unfold Size; kernel_rfl
theorem wFew2_siz31 : Size Go.Proofs.Try.prog 31 1 := by unfold Size; kernel_rfl
theorem wFew2_siz4 : Size Go.Proofs.Try.prog 4 1 := by unfold Size; kernel_rfl
def wFew2_z28 : D := .cons (.int .i64 0) (.cons (.int .i64 0) (.nil))
theorem wFew2_zch28 : ∀ (ok : Nat → Prop) (w : World), R Go.Proofs.Try.prog wFew2_z28 ok w (Value.cells (.agg #[(.int .i64 0), (.int .i64 0)])).toList := fun _ _ => z_int (z_int (z_nil))
theorem wFew2_zer109 : Zero Go.Proofs.Try.prog 109 (.slice none 0 0) := by unfold Zero; kernel_rfl
theorem wFew2_zer25 : Zero Go.Proofs.Try.prog 25 (.slice none 0 0) := by unfold Zero; kernel_rfl
theorem wFew2_zer28 : Zero Go.Proofs.Try.prog 28 (.agg #[(.int .i64 0), (.int .i64 0)]) := by unfold Zero; kernel_rfl
theorem wFew2_zer3 : Zero Go.Proofs.Try.prog 3 (.int .i64 0) := by unfold Zero; kernel_rfl
theorem wFew2_zer31 : Zero Go.Proofs.Try.prog 31 (.slice none 0 0) := by unfold Zero; kernel_rfl
theorem wFew2_zer4 : Zero Go.Proofs.Try.prog 4 (.bool false) := by unfold Zero; kernel_rfl

theorem tryWrong_spec (n : Int) (ls : List (List Int)) :
    Spec Go.Proofs.Try.prog 37 [.val (cnf n ls)] (fault (Sp.tryV n ls).1 (Sp.tryV n ls).2) := by
  refine spec_of' Go.Proofs.Try.func37 rfl Go.Proofs.Try.ntmps37 rfl ?_
  refine f_seq ?_
  refine f_region ?_
  refine scons (r_box (ob := 10001) rfl (Sees.of rfl) rfl rfl rfl rfl rfl rfl) ?_
  refine scons (r_alloc (ob := 10002) rfl wFew2_zer28 rfl rfl rfl rfl rfl rfl) ?_
  refine snil ?_
  refine f_seq ?_
  refine f_region ?_
  refine scons (CStep.step (PStep.c (p_loadBS rfl wFew2_agg24 wFew2_siz24 (Sees.of rfl) rfl rfl rfl)) rfl rfl rfl rfl) ?_
  refine scons (CStep.step (c_call rfl wFew2_isf49 ⟨_, _, rfl, (Sees.of rfl), rfl, rfl⟩ (check_spec n ls)) rfl rfl rfl rfl) ?_
  refine scons (r_alloc (ob := 10003) rfl wFew2_zer28 rfl rfl rfl rfl rfl rfl) ?_
  refine scons (r_storeS rfl wFew2_siz28 rfl rfl rfl (Sees.of rfl) rfl (Sees.of rfl) rfl rfl rfl rfl) ?_
  refine snil ?_
  refine f_seq ?_
  refine f_seq ?_
  refine f_region ?_
  refine scons (CStep.step (PStep.c (p_fieldRef rfl wFew2_fld28_0 wFew2_siz3 rfl (Sees.of rfl) rfl)) rfl rfl rfl rfl) ?_
  refine scons (CStep.step (PStep.c (p_loadB (y := .val _) rfl wFew2_agg3 (Sees.of rfl) rfl rfl rfl rfl)) rfl rfl rfl rfl) ?_
  refine scons (CStep.step (PStep.c (p_eql rfl (Sees.of rfl) (Sees.of rfl))) rfl rfl rfl rfl) ?_
  refine scons (CStep.step (PStep.c (p_move (y := .val _) rfl (Sees.of rfl) rfl)) rfl rfl rfl rfl) ?_
  refine scons (CStep.guard rfl rfl rfl (fun hg0 => PStep.c (p_fieldRef rfl wFew2_fld24_0 wFew2_siz3 rfl (Sees.of rfl) rfl)) rfl rfl rfl rfl rfl) ?_
  refine scons (CStep.guard rfl rfl rfl (fun hg0 => PStep.c (p_loadB (y := .val _) rfl wFew2_agg3 (Sees.gv' rfl hg0) rfl rfl rfl rfl)) rfl rfl rfl rfl rfl) ?_
  refine scons (CStep.guard rfl rfl rfl (fun hg0 => PStep.c (p_gtr rfl (Sees.gv' rfl hg0) (Sees.of rfl))) rfl rfl rfl rfl rfl) ?_
  refine scons (CStep.step (PStep.c (p_and rfl (Sees.of rfl) (fun h => Sees.gv' rfl (beq_of_eq h)) (Sees.of rfl))) rfl rfl rfl rfl) ?_
  refine snil ?_
  refine f_cond rfl ?_ ?_
  · intro hc1
    try simp only [bs] at hc1
    refine f_region ?_
    refine scons (CStep.step (PStep.c (p_build rfl wFew2_plc28 wFew2_zer28 (by decide) wFew2_zch28 ⟨_, _, _, rfl, rfl, rfl, (Sees.of rfl), ⟨_, _, _, rfl, rfl, rfl, (Sees.of rfl), rfl⟩⟩ rfl)) rfl rfl rfl rfl) ?_
    refine scons (r_storeS rfl wFew2_siz28 rfl rfl rfl (Sees.of rfl) rfl (Sees.of rfl) rfl rfl rfl rfl) ?_
    refine snil ?_
    refine f_seq ?_
    refine f_region ?_
    refine scons (CStep.step (PStep.c (p_loadBS rfl wFew2_agg28 wFew2_siz28 (Sees.of rfl) rfl rfl rfl)) rfl rfl rfl rfl) ?_
    refine scons (r_storeS rfl wFew2_siz28 rfl rfl rfl (Sees.of rfl) rfl (Sees.of rfl) rfl rfl rfl rfl) ?_
    refine snil ?_
    refine f_ret ?_
    refine ends_ret (res_eq (res1 rfl (res_cell (by rfl) rfl rfl wFew2_agg28 wFew2_siz28 rfl rfl)) ?_)
    rw [Sp.tryV, if_neg (fun h => h hc1.1), if_pos (by omega)]
    all_goals rfl
  · intro hc1
    try simp only [bs] at hc1
    refine f_skip ?_
    refine f_seq ?_
    refine f_region ?_
    refine scons (CStep.step (PStep.c (p_loadBS rfl wFew2_agg28 wFew2_siz28 (Sees.of rfl) rfl rfl rfl)) rfl rfl rfl rfl) ?_
    refine scons (r_storeS rfl wFew2_siz28 rfl rfl rfl (Sees.of rfl) rfl (Sees.of rfl) rfl rfl rfl rfl) ?_
    refine snil ?_
    refine f_ret ?_
    refine ends_ret (res_eq (res1 rfl (res_cell (by rfl) rfl rfl wFew2_agg28 wFew2_siz28 rfl rfl)) ?_)
    by_cases h : (Sp.check n ls).1 = 0
    · rw [Sp.tryV, if_neg (fun h2 => h2 h), if_neg (by omega), Sp.check_zero h]
      all_goals rfl
    · rw [Sp.tryV, if_pos h]
      all_goals rfl

theorem fewCheck_spec (n : Int) (ls : List (List Int)) :
    Spec Go.Proofs.Try.prog 82 [.val (cnf n ls)] (fault (Sp.tryV n ls).1 (Sp.tryV n ls).2) := by
  refine spec_of' Go.Proofs.Try.func82 rfl Go.Proofs.Try.ntmps82 rfl ?_
  refine f_seq ?_
  refine f_region ?_
  refine scons (r_box (ob := 10001) rfl (Sees.of rfl) rfl rfl rfl rfl rfl rfl) ?_
  refine scons (r_alloc (ob := 10002) rfl wFew2_zer28 rfl rfl rfl rfl rfl rfl) ?_
  refine snil ?_
  refine f_seq ?_
  refine f_seq ?_
  refine f_region ?_
  refine scons (CStep.step (PStep.c (p_loadBS rfl wFew2_agg24 wFew2_siz24 (Sees.of rfl) rfl rfl rfl)) rfl rfl rfl rfl) ?_
  refine scons (CStep.step (c_call rfl wFew2_isf95 ⟨_, _, rfl, (Sees.of rfl), rfl, rfl⟩ (ccheck_spec n ls)) rfl rfl rfl rfl) ?_
  refine scons (r_alloc (ob := 10003) rfl wFew2_zer28 rfl rfl rfl rfl rfl rfl) ?_
  refine scons (r_storeS rfl wFew2_siz28 rfl rfl rfl (Sees.of rfl) rfl (Sees.of rfl) rfl rfl rfl rfl) ?_
  refine snil ?_
  refine f_seq ?_
  refine f_region ?_
  refine scons (CStep.step (PStep.c (p_fieldRef rfl wFew2_fld28_0 wFew2_siz3 rfl (Sees.of rfl) rfl)) rfl rfl rfl rfl) ?_
  refine scons (CStep.step (PStep.c (p_loadB (y := .val _) rfl wFew2_agg3 (Sees.of rfl) rfl rfl rfl rfl)) rfl rfl rfl rfl) ?_
  refine scons (CStep.step (PStep.c (p_neq rfl (Sees.of rfl) (Sees.of rfl))) rfl rfl rfl rfl) ?_
  refine snil ?_
  refine f_cond rfl ?_ ?_
  · intro hc1
    try simp only [bs] at hc1
    refine f_seq ?_
    refine f_region ?_
    refine scons (CStep.step (PStep.c (p_loadBS rfl wFew2_agg28 wFew2_siz28 (Sees.of rfl) rfl rfl rfl)) rfl rfl rfl rfl) ?_
    refine scons (r_storeS rfl wFew2_siz28 rfl rfl rfl (Sees.of rfl) rfl (Sees.of rfl) rfl rfl rfl rfl) ?_
    refine snil ?_
    refine f_ret ?_
    refine ends_ret (res_eq (res1 rfl (res_cell (by rfl) rfl rfl wFew2_agg28 wFew2_siz28 rfl rfl)) ?_)
    rw [Sp.tryV, if_pos hc1]
    all_goals rfl
  · intro hc1
    try simp only [bs] at hc1
    refine f_skip ?_
    refine f_seq ?_
    refine f_seq ?_
    refine f_region ?_
    refine scons (CStep.step (PStep.c (p_fieldRef rfl wFew2_fld24_0 wFew2_siz3 rfl (Sees.of rfl) rfl)) rfl rfl rfl rfl) ?_
    refine scons (CStep.step (PStep.c (p_loadB (y := .val _) rfl wFew2_agg3 (Sees.of rfl) rfl rfl rfl rfl)) rfl rfl rfl rfl) ?_
    refine scons (CStep.step (PStep.c (p_gtr rfl (Sees.of rfl) (Sees.of rfl))) rfl rfl rfl rfl) ?_
    refine snil ?_
    refine f_cond rfl ?_ ?_
    · intro hc2
      try simp only [bs] at hc2
      refine f_seq ?_
      refine f_region ?_
      refine scons (CStep.step (PStep.c (p_build rfl wFew2_plc28 wFew2_zer28 (by decide) wFew2_zch28 ⟨_, _, _, rfl, rfl, rfl, (Sees.of rfl), ⟨_, _, _, rfl, rfl, rfl, (Sees.of rfl), rfl⟩⟩ rfl)) rfl rfl rfl rfl) ?_
      refine scons (r_storeS rfl wFew2_siz28 rfl rfl rfl (Sees.of rfl) rfl (Sees.of rfl) rfl rfl rfl rfl) ?_
      refine snil ?_
      refine f_ret ?_
      refine ends_ret (res_eq (res1 rfl (res_cell (by rfl) rfl rfl wFew2_agg28 wFew2_siz28 rfl rfl)) ?_)
      rw [Sp.tryV, if_neg (fun h => h hc1), if_pos (by omega)]
      all_goals rfl
    · intro hc2
      try simp only [bs] at hc2
      refine f_skip ?_
      refine f_seq ?_
      refine f_region ?_
      refine scons (CStep.step (PStep.c (p_build rfl wFew2_plc28 wFew2_zer28 (by decide) wFew2_zch28 rfl rfl)) rfl rfl rfl rfl) ?_
      refine scons (r_storeS rfl wFew2_siz28 rfl rfl rfl (Sees.of rfl) rfl (Sees.of rfl) rfl rfl rfl rfl) ?_
      refine snil ?_
      refine f_ret ?_
      refine ends_ret (res_eq (res1 rfl (res_cell (by rfl) rfl rfl wFew2_agg28 wFew2_siz28 rfl rfl)) ?_)
      rw [Sp.tryV, if_neg (fun h => h hc1), if_neg (by omega)]
      all_goals rfl

theorem fewSmall_spec (n : Int) (ls : List (List Int)) :
    Spec Go.Proofs.Try.prog 87 [.val (cnf n ls)] (fault (Sp.smallW n ls).1 (Sp.smallW n ls).2) := by
  refine spec_of' Go.Proofs.Try.func87 rfl Go.Proofs.Try.ntmps87 rfl ?_
  refine f_seq ?_
  refine f_region ?_
  refine scons (r_box (ob := 10001) rfl (Sees.of rfl) rfl rfl rfl rfl rfl rfl) ?_
  refine scons (r_alloc (ob := 10002) rfl wFew2_zer28 rfl rfl rfl rfl rfl rfl) ?_
  refine snil ?_
  refine f_seq ?_
  refine f_seq ?_
  refine f_region ?_
  refine scons (CStep.step (PStep.c (p_loadBS rfl wFew2_agg24 wFew2_siz24 (Sees.of rfl) rfl rfl rfl)) rfl rfl rfl rfl) ?_
  refine scons (CStep.step (c_call rfl wFew2_isf82 ⟨_, _, rfl, (Sees.of rfl), rfl, rfl⟩ (fewCheck_spec n ls)) rfl rfl rfl rfl) ?_
  refine scons (r_alloc (ob := 10003) rfl wFew2_zer28 rfl rfl rfl rfl rfl rfl) ?_
  refine scons (r_storeS rfl wFew2_siz28 rfl rfl rfl (Sees.of rfl) rfl (Sees.of rfl) rfl rfl rfl rfl) ?_
  refine snil ?_
  refine f_seq ?_
  refine f_region ?_
  refine scons (CStep.step (PStep.c (p_fieldRef rfl wFew2_fld28_0 wFew2_siz3 rfl (Sees.of rfl) rfl)) rfl rfl rfl rfl) ?_
  refine scons (CStep.step (PStep.c (p_loadB (y := .val _) rfl wFew2_agg3 (Sees.of rfl) rfl rfl rfl rfl)) rfl rfl rfl rfl) ?_
  refine scons (CStep.step (PStep.c (p_neq rfl (Sees.of rfl) (Sees.of rfl))) rfl rfl rfl rfl) ?_
  refine snil ?_
  refine f_cond rfl ?_ ?_
  · intro hc1
    try simp only [bs] at hc1
    refine f_seq ?_
    refine f_region ?_
    refine scons (CStep.step (PStep.c (p_loadBS rfl wFew2_agg28 wFew2_siz28 (Sees.of rfl) rfl rfl rfl)) rfl rfl rfl rfl) ?_
    refine scons (r_storeS rfl wFew2_siz28 rfl rfl rfl (Sees.of rfl) rfl (Sees.of rfl) rfl rfl rfl rfl) ?_
    refine snil ?_
    refine f_ret ?_
    refine ends_ret (res_eq (res1 rfl (res_cell (by rfl) rfl rfl wFew2_agg28 wFew2_siz28 rfl rfl)) ?_)
    rw [Sp.smallW, if_pos hc1]
    all_goals rfl
  · intro hc1
    try simp only [bs] at hc1
    refine f_skip ?_
    refine f_seq ?_
    refine f_seq ?_
    refine f_region ?_
    refine scons (CStep.step (PStep.c (p_fieldRef rfl wFew2_fld24_1 wFew2_siz22 rfl (Sees.of rfl) rfl)) rfl rfl rfl rfl) ?_
    refine scons (CStep.step (PStep.c (p_loadB (y := .val _) rfl wFew2_agg22 (Sees.of rfl) rfl rfl rfl rfl)) rfl rfl rfl rfl) ?_
    refine scons (CStep.step (PStep.c (p_len rfl wFew2_isl22 (Sees.of rfl))) rfl rfl rfl rfl) ?_
    refine scons (CStep.step (PStep.c (p_gtr rfl (Sees.of rfl) (Sees.of rfl))) rfl rfl rfl rfl) ?_
    refine snil ?_
    refine f_cond rfl ?_ ?_
    · intro hc2
      try simp only [bs] at hc2
      refine f_seq ?_
      refine f_region ?_
      refine scons (CStep.step (PStep.c (p_build rfl wFew2_plc28 wFew2_zer28 (by decide) wFew2_zch28 ⟨_, _, _, rfl, rfl, rfl, (Sees.of rfl), ⟨_, _, _, rfl, rfl, rfl, (Sees.of rfl), rfl⟩⟩ rfl)) rfl rfl rfl rfl) ?_
      refine scons (r_storeS rfl wFew2_siz28 rfl rfl rfl (Sees.of rfl) rfl (Sees.of rfl) rfl rfl rfl rfl) ?_
      refine snil ?_
      refine f_ret ?_
      refine ends_ret (res_eq (res1 rfl (res_cell (by rfl) rfl rfl wFew2_agg28 wFew2_siz28 rfl rfl)) ?_)
      rw [Sp.smallW, if_neg (fun h => h hc1), if_pos (by omega)]
      all_goals rfl
    · intro hc2
      try simp only [bs] at hc2
      refine f_skip ?_
      refine f_seq ?_
      refine f_region ?_
      refine scons (CStep.step (PStep.c (p_build rfl wFew2_plc28 wFew2_zer28 (by decide) wFew2_zch28 rfl rfl)) rfl rfl rfl rfl) ?_
      refine scons (r_storeS rfl wFew2_siz28 rfl rfl rfl (Sees.of rfl) rfl (Sees.of rfl) rfl rfl rfl rfl) ?_
      refine snil ?_
      refine f_ret ?_
      refine ends_ret (res_eq (res1 rfl (res_cell (by rfl) rfl rfl wFew2_agg28 wFew2_siz28 rfl rfl)) ?_)
      rw [Sp.smallW, if_neg (fun h => h hc1), if_neg (by omega)]
      all_goals rfl

theorem core1_spec (i : Nat) (b : List Bool) (hi : i < b.length) :
    Spec Go.Proofs.Try.prog 84 [iv i, .ptr (bools b)] (D.bool (Sp.at_ b i)) := by
  refine spec_of' Go.Proofs.Try.func84 rfl Go.Proofs.Try.ntmps84 rfl ?_
  refine f_seq ?_
  skip
  refine f_region ?_
  refine scons (CStep.step (PStep.c (p_assign (y := .val _) rfl (Sees.of rfl) rfl)) rfl rfl rfl rfl) ?_
  refine snil ?_
  refine f_seq ?_
  refine f_region ?_
  refine scons (CStep.step (PStep.c (p_load rfl wFew2_agg31 (Sees.of rfl) rfl)) rfl rfl rfl rfl) ?_
  refine scons (CStep.step (PStep.c (p_move (y := .val _) rfl (Sees.of rfl) rfl)) rfl rfl rfl rfl) ?_
  refine scons (CStep.step (PStep.c ((by first | exact p_indexN rfl wFew2_isl31 wFew2_siz4 (Sees.of rfl) (Sees.of rfl) (by omega) | exact p_index rfl wFew2_isl31 wFew2_siz4 (Sees.of rfl) (Sees.of rfl) (by omega) (by omega)))) rfl rfl rfl rfl) ?_
  refine scons (CStep.step (PStep.c (p_load rfl wFew2_agg4 (Sees.of rfl) rfl)) rfl rfl rfl rfl) ?_
  refine scons (CStep.step (PStep.c (p_assign (y := .val _) rfl (Sees.of rfl) rfl)) rfl rfl rfl rfl) ?_
  refine snil ?_
  refine f_ret ?_
  refine ends_ret (res_eq (res1 rfl (res_tmp rfl (Sees.of rfl))) ?_)
  rfl

set_option maxHeartbeats 1000000 in
theorem core_spec (n : Int) (ls : List (List Int)) :
    Spec Go.Proofs.Try.prog 36 [.val (cnf n ls)] (two (ints (Sp.coreOf n ls).1) (fault (Sp.coreOf n ls).2.1 (Sp.coreOf n ls).2.2)) := by
  refine spec_of' Go.Proofs.Try.func36 rfl Go.Proofs.Try.ntmps36 rfl ?_
  refine f_seq ?_
  refine f_region ?_
  refine scons (r_box (ob := 10001) rfl (Sees.of rfl) rfl rfl rfl rfl rfl rfl) ?_
  refine scons (CStep.step (PStep.c (p_assign (y := .emp) rfl (Sees.of rfl) rfl)) rfl rfl rfl rfl) ?_
  refine scons (r_alloc (ob := 10003) rfl wFew2_zer28 rfl rfl rfl rfl rfl rfl) ?_
  refine snil ?_
  refine f_seq ?_
  refine f_seq ?_
  refine f_region ?_
  refine scons (CStep.step (PStep.c (p_loadBS rfl wFew2_agg24 wFew2_siz24 (Sees.of rfl) rfl rfl rfl)) rfl rfl rfl rfl) ?_
  refine scons (CStep.step (c_call rfl wFew2_isf82 ⟨_, _, rfl, (Sees.of rfl), rfl, rfl⟩ (fewCheck_spec n ls)) rfl rfl rfl rfl) ?_
  refine scons (r_alloc (ob := 10004) rfl wFew2_zer28 rfl rfl rfl rfl rfl rfl) ?_
  refine scons (r_storeS rfl wFew2_siz28 rfl rfl rfl (Sees.of rfl) rfl (Sees.of rfl) rfl rfl rfl rfl) ?_
  refine snil ?_
  refine f_seq ?_
  refine f_region ?_
  refine scons (CStep.step (PStep.c (p_fieldRef rfl wFew2_fld28_0 wFew2_siz3 rfl (Sees.of rfl) rfl)) rfl rfl rfl rfl) ?_
  refine scons (CStep.step (PStep.c (p_loadB (y := .val _) rfl wFew2_agg3 (Sees.of rfl) rfl rfl rfl rfl)) rfl rfl rfl rfl) ?_
  refine scons (CStep.step (PStep.c (p_neq rfl (Sees.of rfl) (Sees.of rfl))) rfl rfl rfl rfl) ?_
  refine snil ?_
  refine f_cond rfl ?_ ?_
  · intro hc1
    try simp only [bs] at hc1
    refine f_seq ?_
    refine f_draw wFew2_mix (by kernel_rfl) ?_
    refine dcons (CStep.step (PStep.c (p_loadBS rfl wFew2_agg28 wFew2_siz28 (Sees.of rfl) rfl rfl rfl)) rfl rfl rfl rfl) ?_
    refine dcons (CStep.step (PStep.c (p_assign (y := .emp) rfl (Sees.of rfl) rfl)) rfl rfl rfl rfl) ?_
    refine dcons (r_storeS rfl wFew2_siz28 rfl rfl rfl (Sees.of rfl) rfl (Sees.of rfl) rfl rfl rfl rfl) ?_
    refine dnil (by kernel_rfl) ?_
    refine f_ret ?_
    refine ends_ret (res_eq (res2 rfl (res_tmp rfl (Sees.emp rfl 1 di 0)) (res_cell (by rfl) rfl rfl wFew2_agg28 wFew2_siz28 rfl rfl)) ?_)
    rw [Sp.coreOf, if_pos hc1]
    all_goals rfl
  · intro hc1
    try simp only [bs] at hc1
    have htk := Sp.tryV_ok hc1
    obtain ⟨m, rfl⟩ : ∃ m : Nat, n = (m : Int) := ⟨n.toNat, by omega⟩
    have hck := Sp.check_use (m := m) htk.1
    have hll := (Sp.check_ok htk.1).2.1
    have hsl := Sp.setsD_len m ls
    refine f_skip ?_
    refine f_seq ?_
    refine f_region ?_
    refine scons (CStep.step (PStep.c (p_loadBS rfl wFew2_agg24 wFew2_siz24 (Sees.of rfl) rfl rfl rfl)) rfl rfl rfl rfl) ?_
    refine scons (CStep.step (c_call rfl wFew2_isf83 ⟨_, _, rfl, (Sees.of rfl), rfl, rfl⟩ (sets_spec m ls (by omega) hll hck.1)) rfl rfl rfl rfl) ?_
    refine scons (CStep.step (PStep.c (p_assign (y := .val _) rfl (Sees.of rfl) rfl)) rfl rfl rfl rfl) ?_
    refine snil ?_
    refine f_seq ?_
    refine f_region ?_
    refine scons (CStep.step (PStep.c (p_move (y := .val _) rfl (Sees.of rfl) rfl)) rfl rfl rfl rfl) ?_
    refine scons (CStep.step (PStep.c (p_len rfl wFew2_isl109 (Sees.of rfl))) rfl rfl rfl rfl) ?_
    refine scons (r_make (m := ls.length) (f := D.bool) (z := false) (ob := 10021) rfl wFew2_isl31 wFew2_siz4 wFew2_byt4 wFew2_zer4 rfl rfl rfl (fun _ _ => rfl) (Sees.of (by show AV.val (.int .i64 ((Sp.setsD m ls).length : Int)) = _; rw [hsl])) (by omega) (by omega) rfl rfl rfl rfl rfl) ?_
    refine scons (r_alloc (ob := 10006) rfl wFew2_zer31 rfl rfl rfl rfl rfl rfl) ?_
    refine scons (r_storeR rfl wFew2_siz31 rfl rfl rfl (Sees.of rfl) rfl rfl (Sees.of rfl) rfl) ?_
    refine snil ?_
    refine f_seq ?_
    refine f_seq ?_
    refine f_region ?_
    refine scons (CStep.step (PStep.c (p_loadB (y := .row _ _) rfl wFew2_agg31 (Sees.of rfl) rfl rfl rfl rfl)) rfl rfl rfl rfl) ?_
    refine scons (CStep.step (PStep.c (p_lenR rfl wFew2_isl31 (Sees.of rfl) rfl)) rfl rfl rfl rfl) ?_
    refine scons (CStep.step (PStep.c (p_move (y := .val _) rfl (Sees.of rfl) rfl)) rfl rfl rfl rfl) ?_
    refine snil ?_
    refine f_block ?_
    refine f_loop (α := Nat) (fun i => i ≤ ls.length) (fun i => [(24, iv i), (23, iv ls.length), (6, .ref 10006 0 0), (10006, .box 0 (.ccons (.row 10021 0) .cnil)), (10021, .arr 0 4 1 1 D.bool false (List.replicate i true ++ List.replicate (ls.length - i) false)), (1, .ref 10001 0 0), (10001, .box 0 (.ccons (iv m) (.ccons (.val (intss ls)) .cnil))), (3, .ref 10003 0 0), (10003, .box 0 (.ccons (iv 0) (.ccons (iv 0) .cnil))), (5, .val (wdss (Sp.setsD m ls)))]) (fun i => ls.length - i) 0 ?_ ?_ ?_
    · exact Nat.zero_le _
    · exact le_ofL ⟨rfl, (by show AV.val (.int .i64 ((List.replicate ls.length false).length : Int)) = _; rw [List.length_replicate]), rfl, rfl, rfl, rfl, rfl, rfl, rfl, rfl, trivial⟩ rfl
    · rintro i hi
      refine f_seq ?_
      refine f_region ?_
      refine scons (CStep.step (PStep.c (p_lss rfl (Sees.of rfl) (Sees.of rfl))) rfl rfl rfl rfl) ?_
      refine snil ?_
      refine f_seq ?_
      refine f_cond rfl ?_ ?_
      · intro hc2
        try simp only [bs] at hc2
        refine f_skip ?_
        refine f_seq ?_
        refine f_block ?_
        refine f_seq ?_
        refine f_region ?_
        refine scons (CStep.step (PStep.c (p_move (y := .val _) rfl (Sees.of rfl) rfl)) rfl rfl rfl rfl) ?_
        refine scons (CStep.step (PStep.c (p_assign (y := .val _) rfl (Sees.of rfl) rfl)) rfl rfl rfl rfl) ?_
        refine snil ?_
        refine f_region ?_
        refine scons (CStep.step (PStep.c (p_loadB (y := .row _ _) rfl wFew2_agg31 (Sees.of rfl) rfl rfl rfl rfl)) rfl rfl rfl rfl) ?_
        refine scons (CStep.step (PStep.c (p_move (y := .val _) rfl (Sees.of rfl) rfl)) rfl rfl rfl rfl) ?_
        refine scons (CStep.step (PStep.c ((by first | exact p_indexR rfl wFew2_isl31 wFew2_siz4 (Sees.of rfl) rfl (Sees.of rfl) (by simp; omega) | exact p_indexRZ rfl wFew2_isl31 wFew2_siz4 (Sees.of rfl) rfl (Sees.of rfl) (by omega) (by simp; omega)))) rfl rfl rfl rfl) ?_
        refine scons (r_storeE rfl wFew2_siz4 rfl rfl rfl (Sees.of rfl) rfl (by simp; omega) (Sees.of rfl) rfl) ?_
        refine snil ?_
        refine f_nil ?_
        show AWs _ _ _ _ _
        refine f_region ?_
        refine scons (CStep.step (PStep.c (p_add rfl (Sees.of rfl) (Sees.of rfl) (by omega))) rfl rfl rfl rfl) ?_
        refine scons (CStep.step (PStep.c (p_move (y := .val _) rfl (Sees.of rfl) rfl)) rfl rfl rfl rfl) ?_
        refine snil ?_
        refine f_back ⟨i + 1, ?_, ?_, le_ofL ⟨rfl, rfl, rfl, rfl, (by rw [← Sp.fill_next (by omega)]; rfl), rfl, rfl, rfl, rfl, rfl, trivial⟩ rfl⟩
        · omega
        · omega
      · intro hc2
        try simp only [bs] at hc2
        refine f_exit ?_
        show AWs _ _ _ _ _
        refine f_seq ?_
        refine f_region ?_
        refine scons (CStep.step (PStep.c (p_makeFunc (l := [.tmp 6]) rfl)) rfl rfl rfl rfl) ?_
        refine scons (CStep.step (PStep.c (p_assign (y := .clo _ _) rfl (Sees.of rfl) rfl)) rfl rfl rfl rfl) ?_
        refine snil ?_
        refine f_seq ?_
        refine f_seq ?_
        refine f_region ?_
        refine scons (CStep.step (PStep.c (p_move (y := .val _) rfl (Sees.of rfl) rfl)) rfl rfl rfl rfl) ?_
        refine scons (CStep.step (PStep.c (p_fieldRef rfl wFew2_fld24_0 wFew2_siz3 rfl (Sees.of rfl) rfl)) rfl rfl rfl rfl) ?_
        refine scons (CStep.step (PStep.c (p_loadB (y := .val _) rfl wFew2_agg3 (Sees.of rfl) rfl rfl rfl rfl)) rfl rfl rfl rfl) ?_
        refine scons (CStep.step (PStep.c (p_move (y := .clo _ _) rfl (Sees.of rfl) rfl)) rfl rfl rfl rfl) ?_
        refine scons (CStep.step (c_callS (q := true) rfl wFew2_isf85 (open_spec m ls (Sp.at_ (List.replicate i true ++ List.replicate (ls.length - i) false)) (by omega)) (sa_cons (sh_of (Sees.of rfl) rfl) (sa_cons (sh_of (Sees.of rfl) rfl) (sa_cons (sh_clo (Sees.of rfl) wFew2_isf84 (sl_cons (sh_ref1 Sees.same rfl rfl (sh_row Sees.same rfl)) (sl_nil)) (fun _ => rfl) (fun _ => rfl) (fun y => core1_spec y.1 (List.replicate i true ++ List.replicate (ls.length - i) false) (by have := y.2; simp; omega))) (sa_nil)))) rfl) rfl rfl rfl rfl) ?_
        refine snil ?_
        refine f_cond rfl ?_ ?_
        · intro hc3
          try simp only [bs] at hc3
          refine f_seq ?_
          refine f_region ?_
          refine scons (CStep.step (PStep.c (p_build rfl wFew2_plc28 wFew2_zer28 (by decide) wFew2_zch28 ⟨_, _, _, rfl, rfl, rfl, (Sees.of rfl), rfl⟩ rfl)) rfl rfl rfl rfl) ?_
          refine scons (CStep.step (PStep.c (p_assign (y := .emp) rfl (Sees.of rfl) rfl)) rfl rfl rfl rfl) ?_
          refine scons (r_storeS rfl wFew2_siz28 rfl rfl rfl (Sees.of rfl) rfl (Sees.of rfl) rfl rfl rfl rfl) ?_
          refine snil ?_
          refine f_ret ?_
          rw [Sp.fill_all (by omega)] at hc3
          refine ends_ret (res_eq (res2 rfl (res_tmp rfl (Sees.emp rfl 1 di 0)) (res_cell (by rfl) rfl rfl wFew2_agg28 wFew2_siz28 rfl rfl)) ?_)
          rw [Sp.coreOf, if_neg (fun h => h hc1), if_pos (by exact hc3)]
          all_goals rfl
        · intro hc3
          try simp only [bs] at hc3
          refine f_skip ?_
          refine f_seq ?_
          refine f_region ?_
          refine scons (CStep.step (PStep.c (p_assign (y := .emp) rfl (Sees.of rfl) rfl)) rfl rfl rfl rfl) ?_
          refine snil ?_
          refine f_seq ?_
          refine f_seq ?_
          refine f_region ?_
          refine scons (CStep.step (PStep.c (p_move (y := .val _) rfl (Sees.of rfl) rfl)) rfl rfl rfl rfl) ?_
          refine scons (CStep.step (PStep.c (p_len rfl wFew2_isl109 (Sees.of rfl))) rfl rfl rfl rfl) ?_
          refine scons (CStep.step (PStep.c (p_move (y := .val _) rfl (Sees.of rfl) rfl)) rfl rfl rfl rfl) ?_
          refine snil ?_
          refine f_block ?_
          refine f_loop (α := Nat × Nat) (fun (i, u) => i ≤ ls.length) (fun (i, u) => [(40, iv i), (39, iv ls.length), (8, .clo 84 (.ccons (.ref 10006 0 0) .cnil)), (9, .row 30000 u), (30000, .arr u 3 1 8 di 0 (Sp.coreTo m ls i)), (6, .ref 10006 0 0), (10006, .box 0 (.ccons (.row 10021 0) .cnil)), (10021, .arr 0 4 1 1 D.bool false (Sp.bTo m ls i)), (1, .ref 10001 0 0), (10001, .box 0 (.ccons (iv m) (.ccons (.val (intss ls)) .cnil))), (3, .ref 10003 0 0), (10003, .box 0 (.ccons (iv 0) (.ccons (iv 0) .cnil))), (5, .val (wdss (Sp.setsD m ls)))]) (fun (i, u) => ls.length - i) (0, 0) ?_ ?_ ?_
          · exact Nat.zero_le _
          · exact Le.trans (GLe.le (g_adopt (ob := 30000) (k := 9) 3 1 8 di 0 rfl rfl rfl rfl)) (le_ofL ⟨rfl, (by show AV.val (.int .i64 ((Sp.setsD m ls).length : Int)) = _; rw [hsl]), rfl, rfl, rfl, rfl, rfl, (by show _ = AV.arr _ _ _ _ _ _ (List.replicate ls.length true); rw [show ls.length - i = 0 by omega, show i = ls.length by omega]; simp; rfl), rfl, rfl, rfl, rfl, rfl, trivial⟩ rfl)
          · rintro ⟨i, u⟩ hi
            have hi : i ≤ ls.length := hi
            refine f_seq ?_
            refine f_region ?_
            refine scons (CStep.step (PStep.c (p_lss rfl (Sees.of rfl) (Sees.of rfl))) rfl rfl rfl rfl) ?_
            refine snil ?_
            refine f_seq ?_
            refine f_cond rfl ?_ ?_
            · intro hc4
              try simp only [bs] at hc4
              refine f_skip ?_
              refine f_seq ?_
              refine f_block ?_
              refine f_seq ?_
              refine f_region ?_
              refine scons (CStep.step (PStep.c (p_move (y := .val _) rfl (Sees.of rfl) rfl)) rfl rfl rfl rfl) ?_
              refine scons (CStep.step (PStep.c (p_assign (y := .val _) rfl (Sees.of rfl) rfl)) rfl rfl rfl rfl) ?_
              refine snil ?_
              refine f_seq ?_
              refine f_region ?_
              refine scons (CStep.step (PStep.c (p_loadB (y := .row _ _) rfl wFew2_agg31 (Sees.of rfl) rfl rfl rfl rfl)) rfl rfl rfl rfl) ?_
              refine scons (CStep.step (PStep.c (p_move (y := .val _) rfl (Sees.of rfl) rfl)) rfl rfl rfl rfl) ?_
              refine scons (CStep.step (PStep.c ((by first | exact p_indexR rfl wFew2_isl31 wFew2_siz4 (Sees.of rfl) rfl (Sees.of rfl) (by rw [Sp.bTo_len]; omega) | exact p_indexRZ rfl wFew2_isl31 wFew2_siz4 (Sees.of rfl) rfl (Sees.of rfl) (by omega) (by rw [Sp.bTo_len]; omega)))) rfl rfl rfl rfl) ?_
              refine scons (r_storeE rfl wFew2_siz4 rfl rfl rfl (Sees.of rfl) rfl (by rw [Sp.bTo_len]; omega) (Sees.of rfl) rfl) ?_
              refine snil ?_
              refine f_seq ?_
              refine f_region ?_
              refine scons (CStep.step (PStep.c (p_move (y := .val _) rfl (Sees.of rfl) rfl)) rfl rfl rfl rfl) ?_
              refine scons (CStep.step (PStep.c (p_fieldRef rfl wFew2_fld24_0 wFew2_siz3 rfl (Sees.of rfl) rfl)) rfl rfl rfl rfl) ?_
              refine scons (CStep.step (PStep.c (p_loadB (y := .val _) rfl wFew2_agg3 (Sees.of rfl) rfl rfl rfl rfl)) rfl rfl rfl rfl) ?_
              refine scons (CStep.step (PStep.c (p_move (y := .clo _ _) rfl (Sees.of rfl) rfl)) rfl rfl rfl rfl) ?_
              refine scons (CStep.step (c_callS (q := true) rfl wFew2_isf85 (open_spec m ls (Sp.at_ ((Sp.bTo m ls i).set i false)) (by omega)) (sa_cons (sh_of (Sees.of rfl) rfl) (sa_cons (sh_of (Sees.of rfl) rfl) (sa_cons (sh_clo (Sees.of rfl) wFew2_isf84 (sl_cons (sh_ref1 Sees.same rfl rfl (sh_row Sees.same rfl)) (sl_nil)) (fun _ => rfl) (fun _ => rfl) (fun y => core1_spec y.1 ((Sp.bTo m ls i).set i false) (by have := y.2; rw [List.length_set, Sp.bTo_len]; omega))) (sa_nil)))) rfl) rfl rfl rfl rfl) ?_
              refine snil ?_
              refine f_cond rfl ?_ ?_
              · intro hc5
                try simp only [bs] at hc5
                refine f_seq ?_
                refine f_region ?_
                refine scons (CStep.step (PStep.c (p_loadB (y := .row _ _) rfl wFew2_agg31 (Sees.of rfl) rfl rfl rfl rfl)) rfl rfl rfl rfl) ?_
                refine scons (CStep.step (PStep.c (p_move (y := .val _) rfl (Sees.of rfl) rfl)) rfl rfl rfl rfl) ?_
                refine scons (CStep.step (PStep.c ((by first | exact p_indexR rfl wFew2_isl31 wFew2_siz4 (Sees.of rfl) rfl (Sees.of rfl) (by rw [List.length_set, Sp.bTo_len]; omega) | exact p_indexRZ rfl wFew2_isl31 wFew2_siz4 (Sees.of rfl) rfl (Sees.of rfl) (by omega) (by rw [List.length_set, Sp.bTo_len]; omega)))) rfl rfl rfl rfl) ?_
                refine scons (r_storeE rfl wFew2_siz4 rfl rfl rfl (Sees.of rfl) rfl (by rw [List.length_set, Sp.bTo_len]; omega) (Sees.of rfl) rfl) ?_
                refine snil ?_
                refine f_region ?_
                refine scons (CStep.step (PStep.c (p_move (y := .row _ _) rfl (Sees.of rfl) rfl)) rfl rfl rfl rfl) ?_
                refine scons (CStep.step (PStep.c (p_move (y := .val _) rfl (Sees.of rfl) rfl)) rfl rfl rfl rfl) ?_
                refine scons (CStep.step (c_buildSlice (f := di) (za := 0) (xs := [.tmp 55]) rfl rfl wFew2_isl25 wFew2_siz3 wFew2_zer3 rfl rfl ⟨_, _, rfl, (Sees.of rfl), rfl, rfl, rfl⟩) rfl rfl rfl rfl) ?_
                refine scons (r_appendR (ob := 30000) rfl wFew2_isl25 wFew2_siz3 wFew2_byt3 wFew2_zer3 rfl rfl (Sees.of rfl) rfl (Sees.of rfl) (by have := Sp.coreTo_len m ls i; simp only [List.length_cons, List.length_nil]; omega) (by have := Sp.coreTo_len m ls i; simp only [List.length_cons, List.length_nil]; omega) rfl rfl rfl rfl rfl) ?_
                refine scons (CStep.step (PStep.c (p_assign (y := .row _ _) rfl (Sees.of rfl) rfl)) rfl rfl rfl rfl) ?_
                refine snil ?_
                refine f_nil ?_
                show AWs _ _ _ _ _
                refine f_region ?_
                refine scons (CStep.step (PStep.c (p_add rfl (Sees.of rfl) (Sees.of rfl) (by omega))) rfl rfl rfl rfl) ?_
                refine scons (CStep.step (PStep.c (p_move (y := .val _) rfl (Sees.of rfl) rfl)) rfl rfl rfl rfl) ?_
                refine snil ?_
                refine f_back ⟨(i + 1, u + 1), ?_, ?_, le_ofL ⟨rfl, rfl, rfl, rfl, (by rw [(Sp.coreTo_yes hc5).1]; rfl), rfl, rfl, (by show AV.arr _ _ _ _ _ _ (((Sp.bTo m ls i).set i false).set i true) = _; rw [Sp.set_back (Sp.bTo_high m ls i i (Nat.le_refl _) (by omega)), (Sp.coreTo_yes hc5).2]), rfl, rfl, rfl, rfl, rfl, trivial⟩ rfl⟩
                · show i + 1 ≤ ls.length
                  omega
                · show ls.length - (i + 1) < ls.length - i
                  omega
              · intro hc5
                try simp only [bs] at hc5
                refine f_skip ?_
                refine f_nil ?_
                show AWs _ _ _ _ _
                refine f_region ?_
                refine scons (CStep.step (PStep.c (p_add rfl (Sees.of rfl) (Sees.of rfl) (by omega))) rfl rfl rfl rfl) ?_
                refine scons (CStep.step (PStep.c (p_move (y := .val _) rfl (Sees.of rfl) rfl)) rfl rfl rfl rfl) ?_
                refine snil ?_
                refine f_back ⟨(i + 1, u), ?_, ?_, le_ofL ⟨rfl, rfl, rfl, rfl, (by rw [(Sp.coreTo_no hc5).1]; rfl), rfl, rfl, (by rw [(Sp.coreTo_no hc5).2]; rfl), rfl, rfl, rfl, rfl, rfl, trivial⟩ rfl⟩
                · show i + 1 ≤ ls.length
                  omega
                · show ls.length - (i + 1) < ls.length - i
                  omega
            · intro hc4
              try simp only [bs] at hc4
              refine f_exit ?_
              show AWs _ _ _ _ _
              refine f_seq ?_
              refine f_region ?_
              refine scons (CStep.step (PStep.c (p_move (y := .row _ _) rfl (Sees.of rfl) rfl)) rfl rfl rfl rfl) ?_
              refine scons (CStep.step (PStep.c (p_build rfl wFew2_plc28 wFew2_zer28 (by decide) wFew2_zch28 rfl rfl)) rfl rfl rfl rfl) ?_
              refine scons (CStep.step (PStep.c (p_assign (y := .row _ _) rfl (Sees.of rfl) rfl)) rfl rfl rfl rfl) ?_
              refine scons (r_storeS rfl wFew2_siz28 rfl rfl rfl (Sees.of rfl) rfl (Sees.of rfl) rfl rfl rfl rfl) ?_
              refine snil ?_
              refine f_ret ?_
              obtain rfl : i = ls.length := by omega
              refine ends_ret (res_eq (res2 rfl (res_row rfl rfl rfl) (res_cell (by rfl) rfl rfl wFew2_agg28 wFew2_siz28 rfl rfl)) ?_)
              rw [Sp.fill_all (by omega)] at hc3
              rw [Sp.coreOf, if_neg (fun h => h hc1), if_neg (by rw [Int.toNat_natCast, hc3]; decide)]
              all_goals rfl

theorem some_spec (m : Nat) (l : List (List Int)) (hm : m ≤ 16) (hG : ∀ x ∈ l, Sp.Good m x) :
    Spec Go.Proofs.Try.prog 38 [iv m, .val (intss l)] (di (Sp.someOf m l)) := by
  refine spec_of' Go.Proofs.Try.func38 rfl Go.Proofs.Try.ntmps38 rfl ?_
  refine f_seq ?_
  have hp16 : 2 ^ m ≤ 65536 := Nat.pow_le_pow_right (n := 2) (by decide) hm
  have hpw := Sp.pow_ok (m := m) (by omega)
  have hpn := Sp.pow_nat m
  refine f_region ?_
  refine scons (CStep.step (PStep.c (p_assign (y := .val _) rfl (Sees.of rfl) rfl)) rfl rfl rfl rfl) ?_
  refine snil ?_
  refine f_seq ?_
  refine f_seq ?_
  refine f_region ?_
  refine scons (CStep.step (PStep.c (p_assign (y := .val _) rfl (Sees.of rfl) rfl)) rfl rfl rfl rfl) ?_
  refine snil ?_
  refine f_block ?_
  refine f_loop (α := Nat) (fun w => w ≤ 2 ^ m ∧ ∀ v, v < w → Sp.all (Sp.bits m v) l = false) (fun w => [(5, iv w), (0, iv m), (1, .val (intss l))]) (fun w => 2 ^ m - w) 0 ?_ ?_ ?_
  · exact ⟨Nat.zero_le _, fun v hv => absurd hv (Nat.not_lt_zero _)⟩
  · exact le_ofL ⟨rfl, rfl, rfl, trivial⟩ rfl
  · rintro w ⟨hw, hp⟩
    refine f_seq ?_
    refine f_seq ?_
    refine f_region ?_
    refine scons (CStep.step (PStep.c (p_move (y := .val _) rfl (Sees.of rfl) rfl)) rfl rfl rfl rfl) ?_
    refine scons (CStep.step (PStep.c (p_move (y := .val _) rfl (Sees.of rfl) rfl)) rfl rfl rfl rfl) ?_
    refine scons (CStep.step (PStep.c (p_convU rfl wFew2_int3 wFew2_int42 (Sees.of rfl) (by omega))) rfl rfl rfl rfl) ?_
    refine scons (CStep.step (PStep.c (p_shl rfl (Sees.of rfl) (Sees.of rfl) (by omega) (by omega) (by first | omega | assumption))) rfl rfl rfl rfl) ?_
    rw [hpn]
    refine scons (CStep.step (PStep.c (p_lss rfl (Sees.of rfl) (Sees.of rfl))) rfl rfl rfl rfl) ?_
    refine snil ?_
    refine f_cond rfl ?_ ?_
    · intro hc1
      try simp only [bs] at hc1
      refine f_skip ?_
      refine f_seq ?_
      refine f_block ?_
      refine f_seq ?_
      refine f_region ?_
      refine scons (CStep.step (PStep.c (p_move (y := .val _) rfl (Sees.of rfl) rfl)) rfl rfl rfl rfl) ?_
      refine scons (CStep.step (PStep.c (p_move (y := .val _) rfl (Sees.of rfl) rfl)) rfl rfl rfl rfl) ?_
      refine scons (CStep.step (PStep.c (p_move (y := .val _) rfl (Sees.of rfl) rfl)) rfl rfl rfl rfl) ?_
      refine scons (CStep.step (c_call rfl wFew2_isf52 ⟨_, _, rfl, (Sees.of rfl), rfl, ⟨_, _, rfl, (Sees.of rfl), rfl, rfl⟩⟩ ((bits_spec m w (by omega)).spec false)) rfl rfl rfl rfl) ?_
      refine scons (CStep.step (c_call rfl wFew2_isf53 ⟨_, _, rfl, (Sees.of rfl), rfl, ⟨_, _, rfl, (Sees.of rfl), rfl, rfl⟩⟩ (all_spec (Sp.bits m w) l (by rw [Sp.bits_length]; exact hG))) rfl rfl rfl rfl) ?_
      refine snil ?_
      refine f_cond rfl ?_ ?_
      · intro hc2
        try simp only [bs] at hc2
        refine f_seq ?_
        refine f_region ?_
        refine scons (CStep.step (PStep.c (p_move (y := .val _) rfl (Sees.of rfl) rfl)) rfl rfl rfl rfl) ?_
        refine scons (CStep.step (PStep.c (p_assign (y := .val _) rfl (Sees.of rfl) rfl)) rfl rfl rfl rfl) ?_
        refine snil ?_
        refine f_ret ?_
        refine ends_ret (res_eq (res1 rfl (res_tmp rfl (Sees.of rfl))) ?_)
        rw [Sp.someOf_at (by omega) hp hc2]
      · intro hc2
        try simp only [bs] at hc2
        refine f_skip ?_
        refine f_nil ?_
        show AWs _ _ _ _ _
        refine f_region ?_
        refine scons (CStep.step (PStep.c (p_move (y := .val _) rfl (Sees.of rfl) rfl)) rfl rfl rfl rfl) ?_
        refine scons (CStep.step (PStep.c (p_add rfl (Sees.of rfl) (Sees.of rfl) (by omega))) rfl rfl rfl rfl) ?_
        refine scons (CStep.step (PStep.c (p_assign (y := .val _) rfl (Sees.of rfl) rfl)) rfl rfl rfl rfl) ?_
        refine snil ?_
        refine f_back ⟨w + 1, ?_, ?_, le_ofL ⟨rfl, rfl, rfl, trivial⟩ rfl⟩
        · refine ⟨by omega, fun v hv => ?_⟩
          by_cases e : v = w
          · rw [e]; exact hc2
          · exact hp v (by omega)
        · omega
    · intro hc1
      try simp only [bs] at hc1
      refine f_exit ?_
      show AWs _ _ _ _ _
      refine f_seq ?_
      refine f_region ?_
      refine scons (CStep.step (PStep.c (p_assign (y := .val _) rfl (Sees.of rfl) rfl)) rfl rfl rfl rfl) ?_
      refine snil ?_
      refine f_ret ?_
      refine ends_ret (res_eq (res1 rfl (res_tmp rfl (Sees.of rfl))) ?_)
      rw [Sp.someOf_none (fun v hv => hp v (by omega))]

theorem canHoldR_spec (m : Nat) (ls : List (List Int)) (s : List Int) (hm : m ≤ 16) (hsl : s.length ≤ 1000) (hG : ∀ x ∈ ls, Sp.Good m x) (hs : ∀ x ∈ s, 0 ≤ x ∧ x < ls.length) :
    Spec Go.Proofs.Try.prog 86 [.val (cnf m ls), .val (ints s)] (D.bool (decide (0 ≤ Sp.someOf m (Sp.pickL ls s)))) := by
  refine spec_of' Go.Proofs.Try.func86 rfl Go.Proofs.Try.ntmps86 rfl ?_
  refine f_seq ?_
  refine f_region ?_
  refine scons (r_box (ob := 10002) rfl (Sees.of rfl) rfl rfl rfl rfl rfl rfl) ?_
  refine scons (CStep.step (PStep.c (p_assign (y := .val _) rfl (Sees.of rfl) rfl)) rfl rfl rfl rfl) ?_
  refine snil ?_
  refine f_seq ?_
  refine f_region ?_
  refine scons (CStep.step (PStep.c (p_assign (y := .emp) rfl (Sees.of rfl) rfl)) rfl rfl rfl rfl) ?_
  refine snil ?_
  refine f_seq ?_
  refine f_seq ?_
  refine f_region ?_
  refine scons (CStep.step (PStep.c (p_assign (y := .val _) rfl (Sees.of rfl) rfl)) rfl rfl rfl rfl) ?_
  refine snil ?_
  refine f_block ?_
  refine f_loop (α := Nat × Nat) (fun (i, u) => i ≤ s.length) (fun (i, u) => [(6, iv i), (5, .row 30000 u), (30000, .arr u 25 1 24 ints [] (Sp.pickL ls (s.take i))), (1, .val (ints s)), (2, .ref 10002 0 0), (4, bv false), (10002, .box 0 (.ccons (iv m) (.ccons (.val (intss ls)) .cnil)))]) (fun (i, u) => s.length - i) (0, 0) ?_ ?_ ?_
  · exact Nat.zero_le _
  · exact Le.trans (GLe.le (g_adopt (ob := 30000) (k := 5) 25 1 24 ints [] rfl rfl rfl rfl)) (le_ofL ⟨rfl, rfl, rfl, rfl, rfl, rfl, rfl, trivial⟩ rfl)
  · rintro ⟨i, u⟩ hi
    have hi : i ≤ s.length := hi
    refine f_seq ?_
    refine f_seq ?_
    refine f_region ?_
    refine scons (CStep.step (PStep.c (p_move (y := .val _) rfl (Sees.of rfl) rfl)) rfl rfl rfl rfl) ?_
    refine scons (CStep.step (PStep.c (p_move (y := .val _) rfl (Sees.of rfl) rfl)) rfl rfl rfl rfl) ?_
    refine scons (CStep.step (PStep.c (p_len rfl wFew2_isl25 (Sees.of rfl))) rfl rfl rfl rfl) ?_
    refine scons (CStep.step (PStep.c (p_lss rfl (Sees.of rfl) (Sees.of rfl))) rfl rfl rfl rfl) ?_
    refine snil ?_
    refine f_cond rfl ?_ ?_
    · intro hc1
      try simp only [bs] at hc1
      refine f_skip ?_
      refine f_seq ?_
      refine f_block ?_
      have hx := hs _ (Sp.getD_mem s i 0 (by omega))
      refine f_draw wFew2_mix (by kernel_rfl) ?_
      refine dcons (CStep.step (PStep.c (p_move (y := .row _ _) rfl (Sees.of rfl) rfl)) rfl rfl rfl rfl) ?_
      refine dcons (CStep.step (PStep.c (p_fieldRef rfl wFew2_fld24_1 wFew2_siz22 rfl (Sees.of rfl) rfl)) rfl rfl rfl rfl) ?_
      refine dcons (CStep.step (PStep.c (p_loadB (y := .val _) rfl wFew2_agg22 (Sees.of rfl) rfl rfl rfl rfl)) rfl rfl rfl rfl) ?_
      refine dcons (CStep.step (PStep.c (p_move (y := .val _) rfl (Sees.of rfl) rfl)) rfl rfl rfl rfl) ?_
      refine dcons (CStep.step (PStep.c (p_move (y := .val _) rfl (Sees.of rfl) rfl)) rfl rfl rfl rfl) ?_
      refine dcons (CStep.step (PStep.c ((by first | exact p_indexN rfl wFew2_isl25 wFew2_siz3 (Sees.of rfl) (Sees.of rfl) (by omega) | exact p_index rfl wFew2_isl25 wFew2_siz3 (Sees.of rfl) (Sees.of rfl) (by omega) (by omega)))) rfl rfl rfl rfl) ?_
      refine dcons (CStep.step (PStep.c (p_load rfl wFew2_agg3 (Sees.of rfl) rfl)) rfl rfl rfl rfl) ?_
      refine dcons (CStep.step (PStep.c ((by first | exact p_indexN rfl wFew2_isl22 wFew2_siz25 (Sees.of rfl) (Sees.of rfl) (by omega) | exact p_index rfl wFew2_isl22 wFew2_siz25 (Sees.of rfl) (Sees.of rfl) (by omega) (by omega)))) rfl rfl rfl rfl) ?_
      refine dcons (CStep.step (PStep.c (p_load rfl wFew2_agg25 (Sees.of rfl) rfl)) rfl rfl rfl rfl) ?_
      refine dcons (CStep.step (c_buildSlice (f := ints) (za := []) (xs := [.tmp 21]) rfl rfl wFew2_isl22 wFew2_siz25 wFew2_zer25 rfl rfl ⟨_, _, rfl, (Sees.of rfl), rfl, rfl, rfl⟩) rfl rfl rfl rfl) ?_
      refine dcons (r_appendR (ob := 30000) rfl wFew2_isl22 wFew2_siz25 wFew2_byt25 wFew2_zer25 rfl rfl (Sees.of rfl) rfl (Sees.of rfl) (by simp only [Sp.pickL, List.length_map, List.length_take, List.length_cons, List.length_nil]; omega) (by simp only [Sp.pickL, List.length_map, List.length_take, List.length_cons, List.length_nil]; omega) rfl rfl rfl rfl rfl) ?_
      refine dcons (CStep.step (PStep.c (p_assign (y := .row _ _) rfl (Sees.of rfl) rfl)) rfl rfl rfl rfl) ?_
      refine dnil (by kernel_rfl) ?_
      refine f_nil ?_
      show AWs _ _ _ _ _
      refine f_region ?_
      refine scons (CStep.step (PStep.c (p_move (y := .val _) rfl (Sees.of rfl) rfl)) rfl rfl rfl rfl) ?_
      refine scons (CStep.step (PStep.c (p_add rfl (Sees.of rfl) (Sees.of rfl) (by omega))) rfl rfl rfl rfl) ?_
      refine scons (CStep.step (PStep.c (p_assign (y := .val _) rfl (Sees.of rfl) rfl)) rfl rfl rfl rfl) ?_
      refine snil ?_
      refine f_back ⟨(i + 1, u + 1), ?_, ?_, le_ofL ⟨rfl, rfl, (by rw [Sp.take_getD s i 0 (by omega), Sp.pickL_app]; rfl), rfl, rfl, rfl, rfl, trivial⟩ rfl⟩
      · show i + 1 ≤ s.length
        omega
      · show s.length - (i + 1) < s.length - i
        omega
    · intro hc1
      try simp only [bs] at hc1
      refine f_exit ?_
      show AWs _ _ _ _ _
      refine f_seq ?_
      obtain rfl : i = s.length := by omega
      refine f_le (GLe.le (g_freeze (k := 5) (o1 := 30000) rfl rfl rfl rfl)) ?_ (by simp)
      refine f_region ?_
      refine scons (CStep.step (PStep.c (p_fieldRef rfl wFew2_fld24_0 wFew2_siz3 rfl (Sees.of rfl) rfl)) rfl rfl rfl rfl) ?_
      refine scons (CStep.step (PStep.c (p_loadB (y := .val _) rfl wFew2_agg3 (Sees.of rfl) rfl rfl rfl rfl)) rfl rfl rfl rfl) ?_
      refine scons (CStep.step (PStep.c (p_move (y := .val _) rfl (Sees.of rfl) rfl)) rfl rfl rfl rfl) ?_
      refine scons (CStep.step (c_call rfl wFew2_isf38 ⟨_, _, rfl, (Sees.of rfl), rfl, ⟨_, _, rfl, (Sees.of rfl), rfl, rfl⟩⟩ (some_spec m (Sp.pickL ls (s.take s.length)) hm (fun x hx => by rw [List.take_length] at hx; obtain ⟨j, hj, rfl⟩ := List.mem_map.1 hx; have := hs j hj; exact hG _ (Sp.getD_mem ls _ [] (by omega))))) rfl rfl rfl rfl) ?_
      refine scons (CStep.step (PStep.c (p_geq rfl (Sees.of rfl) (Sees.of rfl))) rfl rfl rfl rfl) ?_
      refine scons (CStep.step (PStep.c (p_assign (y := .val _) rfl (Sees.of rfl) rfl)) rfl rfl rfl rfl) ?_
      refine snil ?_
      refine f_ret ?_
      refine ends_ret (res_eq (res1 rfl (res_tmp rfl (Sees.of rfl))) ?_)
      rw [List.take_length]

set_option maxHeartbeats 1000000 in
theorem coreR_spec (m : Nat) (ls : List (List Int)) (hm : m ≤ 16) (hll : ls.length ≤ 400) (hG : ∀ x ∈ ls, Sp.Good m x) :
    Spec Go.Proofs.Try.prog 41 [.val (cnf m ls)] (ints (Sp.coreTo m ls ls.length)) := by
  refine spec_of' Go.Proofs.Try.func41 rfl Go.Proofs.Try.ntmps41 rfl ?_
  refine f_seq ?_
  refine f_region ?_
  refine scons (r_box (ob := 10001) rfl (Sees.of rfl) rfl rfl rfl rfl rfl rfl) ?_
  refine scons (CStep.step (PStep.c (p_assign (y := .emp) rfl (Sees.of rfl) rfl)) rfl rfl rfl rfl) ?_
  refine snil ?_
  refine f_seq ?_
  refine f_region ?_
  refine scons (CStep.step (PStep.c (p_assign (y := .emp) rfl (Sees.of rfl) rfl)) rfl rfl rfl rfl) ?_
  refine snil ?_
  refine f_seq ?_
  refine f_seq ?_
  refine f_region ?_
  refine scons (CStep.step (PStep.c (p_assign (y := .val _) rfl (Sees.of rfl) rfl)) rfl rfl rfl rfl) ?_
  refine snil ?_
  refine f_block ?_
  refine f_loop (α := Nat × Nat) (fun (i, u) => i ≤ ls.length) (fun (i, u) => [(4, iv i), (3, .row 30000 u), (30000, .arr u 3 1 8 di 0 (Sp.upN i)), (1, .ref 10001 0 0), (2, .emp), (10001, .box 0 (.ccons (iv m) (.ccons (.val (intss ls)) .cnil)))]) (fun (i, u) => ls.length - i) (0, 0) ?_ ?_ ?_
  · exact Nat.zero_le _
  · exact Le.trans (GLe.le (g_adopt (ob := 30000) (k := 3) 3 1 8 di 0 rfl rfl rfl rfl)) (le_ofL ⟨rfl, rfl, rfl, rfl, rfl, rfl, trivial⟩ rfl)
  · rintro ⟨i, u⟩ hi
    have hi : i ≤ ls.length := hi
    refine f_seq ?_
    refine f_seq ?_
    refine f_region ?_
    refine scons (CStep.step (PStep.c (p_move (y := .val _) rfl (Sees.of rfl) rfl)) rfl rfl rfl rfl) ?_
    refine scons (CStep.step (PStep.c (p_fieldRef rfl wFew2_fld24_1 wFew2_siz22 rfl (Sees.of rfl) rfl)) rfl rfl rfl rfl) ?_
    refine scons (CStep.step (PStep.c (p_loadB (y := .val _) rfl wFew2_agg22 (Sees.of rfl) rfl rfl rfl rfl)) rfl rfl rfl rfl) ?_
    refine scons (CStep.step (PStep.c (p_len rfl wFew2_isl22 (Sees.of rfl))) rfl rfl rfl rfl) ?_
    refine scons (CStep.step (PStep.c (p_lss rfl (Sees.of rfl) (Sees.of rfl))) rfl rfl rfl rfl) ?_
    refine snil ?_
    refine f_cond rfl ?_ ?_
    · intro hc1
      try simp only [bs] at hc1
      refine f_skip ?_
      refine f_seq ?_
      refine f_block ?_
      refine f_region ?_
      refine scons (CStep.step (PStep.c (p_move (y := .row _ _) rfl (Sees.of rfl) rfl)) rfl rfl rfl rfl) ?_
      refine scons (CStep.step (PStep.c (p_move (y := .val _) rfl (Sees.of rfl) rfl)) rfl rfl rfl rfl) ?_
      refine scons (CStep.step (c_buildSlice (f := di) (za := 0) (xs := [.tmp 16]) rfl rfl wFew2_isl25 wFew2_siz3 wFew2_zer3 rfl rfl ⟨_, _, rfl, (Sees.of rfl), rfl, rfl, rfl⟩) rfl rfl rfl rfl) ?_
      refine scons (r_appendR (ob := 30000) rfl wFew2_isl25 wFew2_siz3 wFew2_byt3 wFew2_zer3 rfl rfl (Sees.of rfl) rfl (Sees.of rfl) (by simp only [Sp.upN_len, List.length_cons, List.length_nil]; omega) (by simp only [Sp.upN_len, List.length_cons, List.length_nil]; omega) rfl rfl rfl rfl rfl) ?_
      refine scons (CStep.step (PStep.c (p_assign (y := .row _ _) rfl (Sees.of rfl) rfl)) rfl rfl rfl rfl) ?_
      refine snil ?_
      refine f_nil ?_
      show AWs _ _ _ _ _
      refine f_region ?_
      refine scons (CStep.step (PStep.c (p_move (y := .val _) rfl (Sees.of rfl) rfl)) rfl rfl rfl rfl) ?_
      refine scons (CStep.step (PStep.c (p_add rfl (Sees.of rfl) (Sees.of rfl) (by omega))) rfl rfl rfl rfl) ?_
      refine scons (CStep.step (PStep.c (p_assign (y := .val _) rfl (Sees.of rfl) rfl)) rfl rfl rfl rfl) ?_
      refine snil ?_
      refine f_back ⟨(i + 1, u + 1), ?_, ?_, le_ofL ⟨rfl, rfl, (by rw [Sp.upN_succ]; rfl), rfl, rfl, rfl, trivial⟩ rfl⟩
      · show i + 1 ≤ ls.length
        omega
      · show ls.length - (i + 1) < ls.length - i
        omega
    · intro hc1
      try simp only [bs] at hc1
      refine f_exit ?_
      show AWs _ _ _ _ _
      refine f_seq ?_
      refine f_seq ?_
      refine f_le (GLe.le (g_freeze (k := 3) (o1 := 30000) rfl rfl rfl rfl)) ?_ (by simp)
      refine f_region ?_
      refine scons (CStep.step (PStep.c (p_assign (y := .val _) rfl (Sees.of rfl) rfl)) rfl rfl rfl rfl) ?_
      refine snil ?_
      refine f_block ?_
      refine f_loop (α := Nat) (fun i => i ≤ ls.length) (fun i => [(5, iv i), (3, .val (ints (Sp.setB ls.length (Sp.bTo m ls i)))), (1, .ref 10001 0 0), (2, .emp), (10001, .box 0 (.ccons (iv m) (.ccons (.val (intss ls)) .cnil)))]) (fun i => ls.length - i) 0 ?_ ?_ ?_
      · exact Nat.zero_le _
      · exact le_ofL ⟨rfl, (by show AV.val (ints (Sp.upN i)) = _; rw [Sp.bTo, Sp.setB_all, show i = ls.length by omega]; rfl), rfl, rfl, rfl, trivial⟩ rfl
      · rintro i hi
        have hbl := Sp.setB_len ls.length (Sp.bTo m ls i)
        refine f_seq ?_
        refine f_seq ?_
        refine f_region ?_
        refine scons (CStep.step (PStep.c (p_move (y := .val _) rfl (Sees.of rfl) rfl)) rfl rfl rfl rfl) ?_
        refine scons (CStep.step (PStep.c (p_fieldRef rfl wFew2_fld24_1 wFew2_siz22 rfl (Sees.of rfl) rfl)) rfl rfl rfl rfl) ?_
        refine scons (CStep.step (PStep.c (p_loadB (y := .val _) rfl wFew2_agg22 (Sees.of rfl) rfl rfl rfl rfl)) rfl rfl rfl rfl) ?_
        refine scons (CStep.step (PStep.c (p_len rfl wFew2_isl22 (Sees.of rfl))) rfl rfl rfl rfl) ?_
        refine scons (CStep.step (PStep.c (p_lss rfl (Sees.of rfl) (Sees.of rfl))) rfl rfl rfl rfl) ?_
        refine snil ?_
        refine f_cond rfl ?_ ?_
        · intro hc2
          try simp only [bs] at hc2
          refine f_skip ?_
          refine f_seq ?_
          refine f_block ?_
          refine f_seq ?_
          refine f_region ?_
          refine scons (CStep.step (PStep.c (p_assign (y := .emp) rfl (Sees.of rfl) rfl)) rfl rfl rfl rfl) ?_
          refine snil ?_
          refine f_seq ?_
          refine f_seq ?_
          refine f_region ?_
          refine scons (CStep.step (PStep.c (p_assign (y := .val _) rfl (Sees.of rfl) rfl)) rfl rfl rfl rfl) ?_
          refine snil ?_
          refine f_block ?_
          refine f_loop (α := Nat × Nat) (fun (j, w) => j ≤ (Sp.setB ls.length (Sp.bTo m ls i)).length) (fun (j, w) => [(7, iv j), (6, .row 30001 w), (30001, .arr w 3 1 8 di 0 (((Sp.setB ls.length (Sp.bTo m ls i)).take j).filter (fun x => decide (x ≠ (i : Int))))), (5, iv i), (3, .val (ints (Sp.setB ls.length (Sp.bTo m ls i)))), (1, .ref 10001 0 0), (2, .emp), (10001, .box 0 (.ccons (iv m) (.ccons (.val (intss ls)) .cnil)))]) (fun (j, w) => (Sp.setB ls.length (Sp.bTo m ls i)).length - j) (0, 0) ?_ ?_ ?_
          · exact Nat.zero_le _
          · exact Le.trans (GLe.le (g_adopt (ob := 30001) (k := 6) 3 1 8 di 0 rfl rfl rfl rfl)) (le_ofL ⟨rfl, rfl, rfl, rfl, rfl, rfl, rfl, rfl, trivial⟩ rfl)
          · rintro ⟨j, w⟩ hj
            have hj : j ≤ (Sp.setB ls.length (Sp.bTo m ls i)).length := hj
            refine f_seq ?_
            refine f_seq ?_
            refine f_region ?_
            refine scons (CStep.step (PStep.c (p_move (y := .val _) rfl (Sees.of rfl) rfl)) rfl rfl rfl rfl) ?_
            refine scons (CStep.step (PStep.c (p_move (y := .val _) rfl (Sees.of rfl) rfl)) rfl rfl rfl rfl) ?_
            refine scons (CStep.step (PStep.c (p_len rfl wFew2_isl25 (Sees.of rfl))) rfl rfl rfl rfl) ?_
            refine scons (CStep.step (PStep.c (p_lss rfl (Sees.of rfl) (Sees.of rfl))) rfl rfl rfl rfl) ?_
            refine snil ?_
            refine f_cond rfl ?_ ?_
            · intro hc3
              try simp only [bs] at hc3
              refine f_skip ?_
              refine f_seq ?_
              refine f_block ?_
              refine f_seq ?_
              refine f_region ?_
              refine scons (CStep.step (PStep.c (p_move (y := .val _) rfl (Sees.of rfl) rfl)) rfl rfl rfl rfl) ?_
              refine scons (CStep.step (PStep.c (p_move (y := .val _) rfl (Sees.of rfl) rfl)) rfl rfl rfl rfl) ?_
              refine scons (CStep.step (PStep.c ((by first | exact p_indexN rfl wFew2_isl25 wFew2_siz3 (Sees.of rfl) (Sees.of rfl) (by omega) | exact p_index rfl wFew2_isl25 wFew2_siz3 (Sees.of rfl) (Sees.of rfl) (by omega) (by omega)))) rfl rfl rfl rfl) ?_
              refine scons (CStep.step (PStep.c (p_load rfl wFew2_agg3 (Sees.of rfl) rfl)) rfl rfl rfl rfl) ?_
              refine scons (CStep.step (PStep.c (p_move (y := .val _) rfl (Sees.of rfl) rfl)) rfl rfl rfl rfl) ?_
              refine scons (CStep.step (PStep.c (p_neq rfl (Sees.of rfl) (Sees.of rfl))) rfl rfl rfl rfl) ?_
              refine snil ?_
              refine f_cond rfl ?_ ?_
              · intro hc4
                try simp only [bs] at hc4
                refine f_region ?_
                refine scons (CStep.step (PStep.c (p_move (y := .row _ _) rfl (Sees.of rfl) rfl)) rfl rfl rfl rfl) ?_
                refine scons (CStep.step (PStep.c (p_move (y := .val _) rfl (Sees.of rfl) rfl)) rfl rfl rfl rfl) ?_
                refine scons (CStep.step (PStep.c (p_move (y := .val _) rfl (Sees.of rfl) rfl)) rfl rfl rfl rfl) ?_
                refine scons (CStep.step (PStep.c ((by first | exact p_indexN rfl wFew2_isl25 wFew2_siz3 (Sees.of rfl) (Sees.of rfl) (by omega) | exact p_index rfl wFew2_isl25 wFew2_siz3 (Sees.of rfl) (Sees.of rfl) (by omega) (by omega)))) rfl rfl rfl rfl) ?_
                refine scons (CStep.step (PStep.c (p_load rfl wFew2_agg3 (Sees.of rfl) rfl)) rfl rfl rfl rfl) ?_
                refine scons (CStep.step (c_buildSlice (f := di) (za := 0) (xs := [.tmp 42]) rfl rfl wFew2_isl25 wFew2_siz3 wFew2_zer3 rfl rfl ⟨_, _, rfl, (Sees.of rfl), rfl, rfl, rfl⟩) rfl rfl rfl rfl) ?_
                refine scons (r_appendR (ob := 30001) rfl wFew2_isl25 wFew2_siz3 wFew2_byt3 wFew2_zer3 rfl rfl (Sees.of rfl) rfl (Sees.of rfl) (by have := List.length_filter_le (fun x => decide (x ≠ (i : Int))) ((Sp.setB ls.length (Sp.bTo m ls i)).take j); simp only [List.length_take] at this; simp only [List.length_cons, List.length_nil]; omega) (by have := List.length_filter_le (fun x => decide (x ≠ (i : Int))) ((Sp.setB ls.length (Sp.bTo m ls i)).take j); simp only [List.length_take] at this; simp only [List.length_cons, List.length_nil]; omega) rfl rfl rfl rfl rfl) ?_
                refine scons (CStep.step (PStep.c (p_assign (y := .row _ _) rfl (Sees.of rfl) rfl)) rfl rfl rfl rfl) ?_
                refine snil ?_
                refine f_nil ?_
                show AWs _ _ _ _ _
                refine f_region ?_
                refine scons (CStep.step (PStep.c (p_move (y := .val _) rfl (Sees.of rfl) rfl)) rfl rfl rfl rfl) ?_
                refine scons (CStep.step (PStep.c (p_add rfl (Sees.of rfl) (Sees.of rfl) (by omega))) rfl rfl rfl rfl) ?_
                refine scons (CStep.step (PStep.c (p_assign (y := .val _) rfl (Sees.of rfl) rfl)) rfl rfl rfl rfl) ?_
                refine snil ?_
                refine f_back ⟨(j + 1, w + 1), ?_, ?_, le_ofL ⟨rfl, rfl, (by rw [Sp.filt_yes (by omega) (decide_eq_true hc4)]; rfl), rfl, rfl, rfl, rfl, rfl, trivial⟩ rfl⟩
                · show j + 1 ≤ (Sp.setB ls.length (Sp.bTo m ls i)).length
                  omega
                · show (Sp.setB ls.length (Sp.bTo m ls i)).length - (j + 1) < (Sp.setB ls.length (Sp.bTo m ls i)).length - j
                  omega
              · intro hc4
                try simp only [bs] at hc4
                refine f_skip ?_
                refine f_nil ?_
                show AWs _ _ _ _ _
                refine f_region ?_
                refine scons (CStep.step (PStep.c (p_move (y := .val _) rfl (Sees.of rfl) rfl)) rfl rfl rfl rfl) ?_
                refine scons (CStep.step (PStep.c (p_add rfl (Sees.of rfl) (Sees.of rfl) (by omega))) rfl rfl rfl rfl) ?_
                refine scons (CStep.step (PStep.c (p_assign (y := .val _) rfl (Sees.of rfl) rfl)) rfl rfl rfl rfl) ?_
                refine snil ?_
                refine f_back ⟨(j + 1, w), ?_, ?_, le_ofL ⟨rfl, rfl, (by rw [Sp.filt_no (by omega) (decide_eq_false (fun h => h hc4))]; rfl), rfl, rfl, rfl, rfl, rfl, trivial⟩ rfl⟩
                · show j + 1 ≤ (Sp.setB ls.length (Sp.bTo m ls i)).length
                  omega
                · show (Sp.setB ls.length (Sp.bTo m ls i)).length - (j + 1) < (Sp.setB ls.length (Sp.bTo m ls i)).length - j
                  omega
            · intro hc3
              try simp only [bs] at hc3
              refine f_exit ?_
              show AWs _ _ _ _ _
              refine f_seq ?_
              have hcut := Sp.canHold_cut (n := m) (ls := ls) (b := Sp.bTo m ls i) (i := i) (j := j) (Sp.bTo_len m ls i) (by omega) (by omega)
              have hfl : (((Sp.setB ls.length (Sp.bTo m ls i)).take j).filter (fun x => decide (x ≠ (i : Int)))).length ≤ 400 := by have := List.length_filter_le (fun x => decide (x ≠ (i : Int))) ((Sp.setB ls.length (Sp.bTo m ls i)).take j); simp only [List.length_take] at this; omega
              have hfm : ∀ x ∈ (((Sp.setB ls.length (Sp.bTo m ls i)).take j).filter (fun x => decide (x ≠ (i : Int)))), 0 ≤ x ∧ x < ls.length := fun x hx => Sp.setB_mem (List.mem_of_mem_take (List.mem_filter.1 hx).1)
              refine f_region ?_
              refine scons (CStep.step (PStep.c (p_loadBS rfl wFew2_agg24 wFew2_siz24 (Sees.of rfl) rfl rfl rfl)) rfl rfl rfl rfl) ?_
              refine scons (CStep.step (PStep.c (p_move (y := .row _ _) rfl (Sees.of rfl) rfl)) rfl rfl rfl rfl) ?_
              refine scons (CStep.step (c_callS (q := true) rfl wFew2_isf86 (canHoldR_spec m ls (((Sp.setB ls.length (Sp.bTo m ls i)).take j).filter (fun x => decide (x ≠ (i : Int)))) hm (by omega) hG hfm) (sa_cons (sh_of (Sees.of rfl) rfl) (sa_cons (sh_row (Sees.of rfl) rfl) (sa_nil))) rfl) rfl rfl rfl rfl) ?_
              refine scons (CStep.step (PStep.c (p_not rfl (Sees.of rfl))) rfl rfl rfl rfl) ?_
              refine snil ?_
              refine f_cond rfl ?_ ?_
              · intro hc5
                try simp only [bs] at hc5
                refine f_region ?_
                refine scons (CStep.step (PStep.c (p_move (y := .row _ _) rfl (Sees.of rfl) rfl)) rfl rfl rfl rfl) ?_
                refine scons (CStep.step (PStep.c (p_assign (y := .row _ _) rfl (Sees.of rfl) rfl)) rfl rfl rfl rfl) ?_
                refine snil ?_
                refine f_nil ?_
                show AWs _ _ _ _ _
                refine f_le (GLe.le (g_freeze (k := 3) (o1 := 30001) rfl rfl rfl rfl)) ?_ (by simp)
                refine f_region ?_
                refine scons (CStep.step (PStep.c (p_move (y := .val _) rfl (Sees.of rfl) rfl)) rfl rfl rfl rfl) ?_
                refine scons (CStep.step (PStep.c (p_add rfl (Sees.of rfl) (Sees.of rfl) (by omega))) rfl rfl rfl rfl) ?_
                refine scons (CStep.step (PStep.c (p_assign (y := .val _) rfl (Sees.of rfl) rfl)) rfl rfl rfl rfl) ?_
                refine snil ?_
                refine f_back ⟨i + 1, ?_, ?_, le_ofL ⟨rfl, (by show AV.val (ints (((Sp.setB ls.length (Sp.bTo m ls i)).take j).filter (fun x => decide (x ≠ (i : Int))))) = _; rw [(Sp.coreTo_no (by rw [← hcut]; exact decide_eq_false (by omega))).2, List.take_of_length_le (by omega), Sp.setB_cut (Sp.bTo_len m ls i) (by omega)]), rfl, rfl, rfl, trivial⟩ rfl⟩
                · omega
                · omega
              · intro hc5
                try simp only [bs] at hc5
                refine f_skip ?_
                refine f_nil ?_
                show AWs _ _ _ _ _
                refine f_region ?_
                refine scons (CStep.step (PStep.c (p_move (y := .val _) rfl (Sees.of rfl) rfl)) rfl rfl rfl rfl) ?_
                refine scons (CStep.step (PStep.c (p_add rfl (Sees.of rfl) (Sees.of rfl) (by omega))) rfl rfl rfl rfl) ?_
                refine scons (CStep.step (PStep.c (p_assign (y := .val _) rfl (Sees.of rfl) rfl)) rfl rfl rfl rfl) ?_
                refine snil ?_
                refine f_back ⟨i + 1, ?_, ?_, le_ofL ⟨rfl, (by rw [(Sp.coreTo_yes (by rw [← hcut]; exact decide_eq_true hc5)).2]; rfl), rfl, rfl, rfl, trivial⟩ rfl⟩
                · omega
                · omega
        · intro hc2
          try simp only [bs] at hc2
          refine f_exit ?_
          show AWs _ _ _ _ _
          refine f_seq ?_
          refine f_region ?_
          refine scons (CStep.step (PStep.c (p_move (y := .val _) rfl (Sees.of rfl) rfl)) rfl rfl rfl rfl) ?_
          refine scons (CStep.step (PStep.c (p_assign (y := .val _) rfl (Sees.of rfl) rfl)) rfl rfl rfl rfl) ?_
          refine snil ?_
          refine f_ret ?_
          refine ends_ret (res_eq (res1 rfl (res_tmp rfl (Sees.of rfl))) ?_)
          obtain rfl : i = ls.length := by omega
          rw [Sp.core_end]

set_option maxHeartbeats 1000000 in
theorem lists_spec (m : Nat) (yes : Nat → Bool) (hm : m ≤ 12) :
    SpecN Go.Proofs.Try.prog 88 [iv m, .val (.fn (α := { w : Nat // w < 2 ^ m }) (fun w => .cons (di w.1) .nil) (fun w => .bool (yes w.1)))] 25 1 24 ints (Sp.lists yes m) := by
  refine specN_of' Go.Proofs.Try.func88 rfl Go.Proofs.Try.ntmps88 rfl ?_
  refine f_seq ?_
  have hp12 : 2 ^ m ≤ 4096 := Nat.pow_le_pow_right (n := 2) (by decide) hm
  refine f_region ?_
  refine scons (CStep.step (PStep.c (p_assign (y := .emp) rfl (Sees.of rfl) rfl)) rfl rfl rfl rfl) ?_
  refine snil ?_
  refine f_seq ?_
  refine f_region ?_
  refine scons (CStep.step (PStep.c (p_move (y := .val _) rfl (Sees.of rfl) rfl)) rfl rfl rfl rfl) ?_
  refine scons (CStep.step (PStep.c (p_shlN (n := m) rfl (Sees.of rfl) (Sees.of rfl) (by omega))) rfl rfl rfl rfl) ?_
  refine scons (r_make (m := (2 ^ m)) (f := D.bool) (z := false) (ob := 10013) rfl wFew2_isl31 wFew2_siz4 wFew2_byt4 wFew2_zer4 rfl rfl rfl (fun _ _ => rfl) (Sees.of rfl) (by omega) (by omega) rfl rfl rfl rfl rfl) ?_
  refine scons (CStep.step (PStep.c (p_assign (y := .row _ _) rfl (Sees.of rfl) rfl)) rfl rfl rfl rfl) ?_
  refine snil ?_
  refine f_seq ?_
  refine f_region ?_
  refine scons (CStep.step (PStep.c (p_assign (y := .emp) rfl (Sees.of rfl) rfl)) rfl rfl rfl rfl) ?_
  refine snil ?_
  refine f_seq ?_
  refine f_seq ?_
  refine f_region ?_
  refine scons (CStep.step (PStep.c (p_move (y := .row _ _) rfl (Sees.of rfl) rfl)) rfl rfl rfl rfl) ?_
  refine scons (CStep.step (PStep.c (p_lenR rfl wFew2_isl31 (Sees.of rfl) rfl)) rfl rfl rfl rfl) ?_
  refine scons (CStep.step (PStep.c (p_move (y := .val _) rfl (Sees.of rfl) rfl)) rfl rfl rfl rfl) ?_
  refine snil ?_
  refine f_block ?_
  refine f_loop (α := Nat × Nat) (fun (k, u) => k ≤ 2 ^ m) (fun (k, u) => [(16, iv k), (15, iv (2 ^ m : Nat)), (1, .val (.fn (α := { w : Nat // w < 2 ^ m }) (fun w => .cons (di w.1) .nil) (fun w => .bool (yes w.1)))), (0, iv m), (6, .row 30000 u), (30000, .arr u 25 1 24 ints [] (Sp.listsTo yes m k)), (5, .row 10013 0), (10013, .arr 0 4 1 1 D.bool false (Sp.isL yes m k))]) (fun (k, u) => 2 ^ m - k) (0, 0) ?_ ?_ ?_
  · exact Nat.zero_le _
  · exact Le.trans (GLe.le (g_adopt (ob := 30000) (k := 6) 25 1 24 ints [] rfl rfl rfl rfl)) (le_ofL ⟨rfl, (by show AV.val (.int .i64 ((List.replicate (2 ^ m) false).length : Int)) = _; rw [List.length_replicate]), rfl, rfl, rfl, rfl, rfl, (by rw [Sp.isL_zero]; rfl), trivial⟩ rfl)
  · rintro ⟨k, u⟩ hk
    have hk : k ≤ 2 ^ m := hk
    refine f_seq ?_
    refine f_region ?_
    refine scons (CStep.step (PStep.c (p_lss rfl (Sees.of rfl) (Sees.of rfl))) rfl rfl rfl rfl) ?_
    refine snil ?_
    refine f_seq ?_
    refine f_cond rfl ?_ ?_
    · intro hc1
      try simp only [bs] at hc1
      refine f_skip ?_
      refine f_seq ?_
      refine f_block ?_
      refine f_seq ?_
      refine f_region ?_
      refine scons (CStep.step (PStep.c (p_move (y := .val _) rfl (Sees.of rfl) rfl)) rfl rfl rfl rfl) ?_
      refine scons (CStep.step (PStep.c (p_assign (y := .val _) rfl (Sees.of rfl) rfl)) rfl rfl rfl rfl) ?_
      refine snil ?_
      refine f_seq ?_
      have hil := Sp.isL_len yes m k
      refine f_region ?_
      refine scons (CStep.step (PStep.c (p_move (y := .row _ _) rfl (Sees.of rfl) rfl)) rfl rfl rfl rfl) ?_
      refine scons (CStep.step (PStep.c (p_move (y := .val _) rfl (Sees.of rfl) rfl)) rfl rfl rfl rfl) ?_
      refine scons (CStep.step (PStep.c (p_move (y := .val _) rfl (Sees.of rfl) rfl)) rfl rfl rfl rfl) ?_
      refine scons (CStep.step (PStep.c (p_move (y := .val _) rfl (Sees.of rfl) rfl)) rfl rfl rfl rfl) ?_
      refine scons (CStep.step (c_callV (q := false) (⟨k, by omega⟩) rfl (Sees.of rfl) rfl (sa_cons (sh_of (Sees.of rfl) rfl) (sa_nil)) rfl) rfl rfl rfl rfl) ?_
      refine scons (CStep.step (PStep.c ((by first | exact p_indexR rfl wFew2_isl31 wFew2_siz4 (Sees.of rfl) rfl (Sees.of rfl) (by omega) | exact p_indexRZ rfl wFew2_isl31 wFew2_siz4 (Sees.of rfl) rfl (Sees.of rfl) (by omega) (by omega)))) rfl rfl rfl rfl) ?_
      refine scons (r_storeE rfl wFew2_siz4 rfl rfl rfl (Sees.of rfl) rfl (by omega) (Sees.of rfl) rfl) ?_
      refine snil ?_
      refine f_seq ?_
      refine f_region ?_
      refine scons (CStep.step (PStep.c (p_move (y := .row _ _) rfl (Sees.of rfl) rfl)) rfl rfl rfl rfl) ?_
      refine scons (CStep.step (PStep.c (p_move (y := .val _) rfl (Sees.of rfl) rfl)) rfl rfl rfl rfl) ?_
      refine scons (CStep.step (PStep.c ((by first | exact p_indexR rfl wFew2_isl31 wFew2_siz4 (Sees.of rfl) rfl (Sees.of rfl) (by rw [List.length_set]; omega) | exact p_indexRZ rfl wFew2_isl31 wFew2_siz4 (Sees.of rfl) rfl (Sees.of rfl) (by omega) (by rw [List.length_set]; omega)))) rfl rfl rfl rfl) ?_
      refine scons (CStep.step (PStep.c (p_loadE rfl wFew2_agg4 (Sees.of rfl) rfl (by rw [List.length_set]; omega) (fun _ => rfl))) rfl rfl rfl rfl) ?_
      refine scons (CStep.step (PStep.c (p_assign (y := .val _) rfl (Sees.of rfl) rfl)) rfl rfl rfl rfl) ?_
      refine snil ?_
      refine f_seq ?_
      refine f_region ?_
      refine scons (CStep.step (PStep.c (p_assign (y := .emp) rfl (Sees.of rfl) rfl)) rfl rfl rfl rfl) ?_
      refine snil ?_
      refine f_seq ?_
      refine f_seq ?_
      refine f_region ?_
      refine scons (CStep.step (PStep.c (p_move (y := .val _) rfl (Sees.of rfl) rfl)) rfl rfl rfl rfl) ?_
      refine scons (CStep.step (PStep.c (p_move (y := .val _) rfl (Sees.of rfl) rfl)) rfl rfl rfl rfl) ?_
      refine snil ?_
      refine f_block ?_
      refine f_loop (α := Nat × Nat) (fun (i, w) => i ≤ m) (fun (i, w) => [(30, iv i), (29, iv m), (9, .row 30001 w), (30001, .arr w 3 1 8 di 0 (Sp.setL k i)), (8, bv (Sp.leastTo yes k i)), (7, iv k), (16, iv k), (15, iv (2 ^ m : Nat)), (1, .val (.fn (α := { w : Nat // w < 2 ^ m }) (fun w => .cons (di w.1) .nil) (fun w => .bool (yes w.1)))), (0, iv m), (6, .row 30000 u), (30000, .arr u 25 1 24 ints [] (Sp.listsTo yes m k)), (5, .row 10013 0), (10013, .arr 0 4 1 1 D.bool false (Sp.isL yes m (k + 1)))]) (fun (i, w) => m - i) (0, 0) ?_ ?_ ?_
      · exact Nat.zero_le _
      · exact Le.trans (GLe.le (g_adopt (ob := 30001) (k := 9) 3 1 8 di 0 rfl rfl rfl rfl)) (le_ofL ⟨rfl, rfl, rfl, rfl, (by show AV.val (.bool (((Sp.isL yes m k).set ((k : Int)).toNat (yes k)).getD ((k : Int)).toNat false)) = _; rw [Int.toNat_natCast, Sp.isL_set, Sp.isL_at (by omega) (by omega)]; rfl), rfl, rfl, rfl, rfl, rfl, rfl, rfl, rfl, (by show AV.arr _ _ _ _ _ _ ((Sp.isL yes m k).set ((k : Int)).toNat (yes k)) = _; rw [Int.toNat_natCast, Sp.isL_set]), trivial⟩ rfl)
      · rintro ⟨i, w⟩ hi
        have hi : i ≤ m := hi
        refine f_seq ?_
        refine f_region ?_
        refine scons (CStep.step (PStep.c (p_lss rfl (Sees.of rfl) (Sees.of rfl))) rfl rfl rfl rfl) ?_
        refine snil ?_
        refine f_seq ?_
        refine f_cond rfl ?_ ?_
        · intro hc2
          try simp only [bs] at hc2
          refine f_skip ?_
          refine f_seq ?_
          refine f_block ?_
          refine f_seq ?_
          refine f_region ?_
          refine scons (CStep.step (PStep.c (p_move (y := .val _) rfl (Sees.of rfl) rfl)) rfl rfl rfl rfl) ?_
          refine scons (CStep.step (PStep.c (p_assign (y := .val _) rfl (Sees.of rfl) rfl)) rfl rfl rfl rfl) ?_
          refine snil ?_
          refine f_seq ?_
          refine f_region ?_
          refine scons (CStep.step (PStep.c (p_move (y := .val _) rfl (Sees.of rfl) rfl)) rfl rfl rfl rfl) ?_
          refine scons (CStep.step (PStep.c (p_move (y := .val _) rfl (Sees.of rfl) rfl)) rfl rfl rfl rfl) ?_
          refine scons (CStep.step (PStep.c (p_shr rfl (Sees.of rfl) (Sees.of rfl) (by omega) (by omega))) rfl rfl rfl rfl) ?_
          refine scons (CStep.step (PStep.c (p_and1 rfl (Sees.of rfl) (Sees.of rfl))) rfl rfl rfl rfl) ?_
          refine scons (CStep.step (PStep.c (p_eql rfl (Sees.of rfl) (Sees.of rfl))) rfl rfl rfl rfl) ?_
          refine snil ?_
          refine f_cond rfl ?_ ?_
          · intro hc3
            try simp only [bs] at hc3
            refine f_seq ?_
            refine f_region ?_
            refine scons (CStep.step (PStep.c (p_move (y := .row _ _) rfl (Sees.of rfl) rfl)) rfl rfl rfl rfl) ?_
            refine scons (CStep.step (PStep.c (p_move (y := .val _) rfl (Sees.of rfl) rfl)) rfl rfl rfl rfl) ?_
            refine scons (CStep.step (c_buildSlice (f := di) (za := 0) (xs := [.tmp 39]) rfl rfl wFew2_isl25 wFew2_siz3 wFew2_zer3 rfl rfl ⟨_, _, rfl, (Sees.of rfl), rfl, rfl, rfl⟩) rfl rfl rfl rfl) ?_
            refine scons (r_appendR (ob := 30001) rfl wFew2_isl25 wFew2_siz3 wFew2_byt3 wFew2_zer3 rfl rfl (Sees.of rfl) rfl (Sees.of rfl) (by have := Sp.setL_len k i; simp only [List.length_append, List.length_cons, List.length_nil]; omega) (by have := Sp.setL_len k i; simp only [List.length_append, List.length_cons, List.length_nil]; omega) rfl rfl rfl rfl rfl) ?_
            refine scons (CStep.step (PStep.c (p_assign (y := .row _ _) rfl (Sees.of rfl) rfl)) rfl rfl rfl rfl) ?_
            refine snil ?_
            have hb : k.testBit i = true := Sp.bit_mod.1 hc3
            have hd := Sp.drop1_lt hb
            have hde := Sp.drop1_eq hb
            have hil1 := Sp.isL_len yes m (k + 1)
            have hp2 : 2 ^ i < 2 ^ 62 := Nat.pow_lt_pow_right (by decide) (by omega)
            refine f_region ?_
            refine scons (CStep.step (PStep.c (p_move (y := .val _) rfl (Sees.of rfl) rfl)) rfl rfl rfl rfl) ?_
            refine scons (CStep.step (PStep.c (p_move (y := .val _) rfl (Sees.of rfl) rfl)) rfl rfl rfl rfl) ?_
            refine scons (CStep.guard rfl rfl rfl (fun hg0 => PStep.c (p_move (y := .row _ _) rfl (Sees.of rfl) rfl)) rfl rfl rfl rfl rfl) ?_
            refine scons (CStep.guard rfl rfl rfl (fun hg0 => PStep.c (p_move (y := .val _) rfl (Sees.of rfl) rfl)) rfl rfl rfl rfl rfl) ?_
            refine scons (CStep.guard rfl rfl rfl (fun hg0 => PStep.c (p_move (y := .val _) rfl (Sees.of rfl) rfl)) rfl rfl rfl rfl rfl) ?_
            refine scons (CStep.guard rfl rfl rfl (fun hg0 => by have hp0 := hg0; (try simp only [bs] at hp0); exact PStep.c (p_shlN (n := i) rfl (Sees.of rfl) (Sees.gv' rfl hg0) (by omega))) rfl rfl rfl rfl rfl) ?_
            refine scons (CStep.guard rfl rfl rfl (fun hg0 => by have hp0 := hg0; (try simp only [bs] at hp0); exact PStep.c (p_andNotN (a := k) (b := 2 ^ i) rfl (Sees.gv' rfl hg0) (Sees.gv' rfl hg0) (by omega) (by omega))) rfl rfl rfl rfl rfl) ?_
            refine scons (CStep.guard rfl rfl rfl (fun hg0 => by have hp0 := hg0; (try simp only [bs] at hp0); exact PStep.c ((by first | exact p_indexR rfl wFew2_isl31 wFew2_siz4 (Sees.gv' rfl hg0) rfl (Sees.gv' rfl hg0) (by rw [hde]; omega) | exact p_indexRZ rfl wFew2_isl31 wFew2_siz4 (Sees.gv' rfl hg0) rfl (Sees.gv' rfl hg0) (by omega) (by rw [hde]; omega)))) rfl rfl rfl rfl rfl) ?_
            refine scons (CStep.guard rfl rfl rfl (fun hg0 => by have hp0 := hg0; (try simp only [bs] at hp0); exact PStep.c (p_loadE rfl wFew2_agg4 (Sees.gv' rfl hg0) rfl (by rw [hde]; omega) (fun _ => rfl))) rfl rfl rfl rfl rfl) ?_
            refine scons (CStep.guard rfl rfl rfl (fun hg0 => PStep.c (p_not rfl (Sees.gv' rfl hg0))) rfl rfl rfl rfl rfl) ?_
            refine scons (CStep.step (PStep.c (p_and rfl (Sees.of rfl) (fun h => Sees.gv' rfl (beq_of_eq h)) (Sees.of rfl))) rfl rfl rfl rfl) ?_
            refine scons (CStep.step (PStep.c (p_assign (y := .val _) rfl (Sees.of rfl) rfl)) rfl rfl rfl rfl) ?_
            refine snil ?_
            refine f_nil ?_
            show AWs _ _ _ _ _
            refine f_region ?_
            refine scons (CStep.step (PStep.c (p_add rfl (Sees.of rfl) (Sees.of rfl) (by omega))) rfl rfl rfl rfl) ?_
            refine scons (CStep.step (PStep.c (p_move (y := .val _) rfl (Sees.of rfl) rfl)) rfl rfl rfl rfl) ?_
            refine snil ?_
            refine f_back ⟨(i + 1, w + 1), ?_, ?_, le_ofL ⟨rfl, rfl, rfl, (by rw [Sp.setL_yes hb]; rfl), (by show AV.val (.bool (Sp.leastTo yes k i && !((Sp.isL yes m (k + 1)).getD (((k ^^^ (k &&& 2 ^ i) : Nat) : Int)).toNat false))) = _; rw [Sp.leastTo_yes hb, hde, Int.toNat_natCast, Sp.isL_at (by omega) (by omega)]), rfl, rfl, rfl, rfl, rfl, rfl, rfl, rfl, rfl, trivial⟩ rfl⟩
            · show i + 1 ≤ m
              omega
            · show m - (i + 1) < m - i
              omega
          · intro hc3
            try simp only [bs] at hc3
            refine f_skip ?_
            refine f_nil ?_
            show AWs _ _ _ _ _
            refine f_region ?_
            refine scons (CStep.step (PStep.c (p_add rfl (Sees.of rfl) (Sees.of rfl) (by omega))) rfl rfl rfl rfl) ?_
            refine scons (CStep.step (PStep.c (p_move (y := .val _) rfl (Sees.of rfl) rfl)) rfl rfl rfl rfl) ?_
            refine snil ?_
            have hb0 : k.testBit i = false := Bool.eq_false_iff.2 (fun h => hc3 (Sp.bit_mod.2 h))
            refine f_back ⟨(i + 1, w), ?_, ?_, le_ofL ⟨rfl, rfl, rfl, (by rw [Sp.setL_no hb0]; rfl), (by rw [Sp.leastTo_no hb0]; rfl), rfl, rfl, rfl, rfl, rfl, rfl, rfl, rfl, rfl, trivial⟩ rfl⟩
            · show i + 1 ≤ m
              omega
            · show m - (i + 1) < m - i
              omega
        · intro hc2
          try simp only [bs] at hc2
          refine f_exit ?_
          show AWs _ _ _ _ _
          refine f_seq ?_
          refine f_region ?_
          refine scons (CStep.step (PStep.c (p_move (y := .val _) rfl (Sees.of rfl) rfl)) rfl rfl rfl rfl) ?_
          refine snil ?_
          refine f_cond rfl ?_ ?_
          · intro hc4
            try simp only [bs] at hc4
            refine f_region ?_
            refine scons (CStep.step (PStep.c (p_move (y := .row _ _) rfl (Sees.of rfl) rfl)) rfl rfl rfl rfl) ?_
            refine scons (CStep.step (PStep.c (p_move (y := .row _ _) rfl (Sees.of rfl) rfl)) rfl rfl rfl rfl) ?_
            refine scons (LStep.pre (g_freeze (k := 56) (o1 := 30001) rfl rfl rfl rfl) (CStep.step (c_buildSlice (f := ints) (za := []) (xs := [.tmp 56]) rfl rfl wFew2_isl22 wFew2_siz25 wFew2_zer25 rfl rfl ⟨_, _, rfl, (Sees.of rfl), rfl, rfl, rfl⟩) rfl rfl rfl rfl)) ?_
            refine scons (r_appendR (ob := 30000) rfl wFew2_isl22 wFew2_siz25 wFew2_byt25 wFew2_zer25 rfl rfl (Sees.of rfl) rfl (Sees.of rfl) (by have := Sp.listsTo_len yes m k; simp only [List.length_append, List.length_cons, List.length_nil]; omega) (by have := Sp.listsTo_len yes m k; simp only [List.length_append, List.length_cons, List.length_nil]; omega) rfl rfl rfl rfl rfl) ?_
            refine scons (CStep.step (PStep.c (p_assign (y := .row _ _) rfl (Sees.of rfl) rfl)) rfl rfl rfl rfl) ?_
            refine snil ?_
            refine f_nil ?_
            show AWs _ _ _ _ _
            refine f_region ?_
            refine scons (CStep.step (PStep.c (p_add rfl (Sees.of rfl) (Sees.of rfl) (by omega))) rfl rfl rfl rfl) ?_
            refine scons (CStep.step (PStep.c (p_move (y := .val _) rfl (Sees.of rfl) rfl)) rfl rfl rfl rfl) ?_
            refine snil ?_
            have him : i = m := by omega
            rw [him] at hc4
            refine f_back ⟨(k + 1, u + 1), ?_, ?_, le_ofL ⟨rfl, rfl, rfl, rfl, rfl, (by rw [Sp.listsTo_yes hc4, him]; rfl), rfl, rfl, trivial⟩ rfl⟩
            · show k + 1 ≤ 2 ^ m
              omega
            · show 2 ^ m - (k + 1) < 2 ^ m - k
              omega
          · intro hc4
            try simp only [bs] at hc4
            refine f_skip ?_
            refine f_nil ?_
            show AWs _ _ _ _ _
            refine f_region ?_
            refine scons (CStep.step (PStep.c (p_add rfl (Sees.of rfl) (Sees.of rfl) (by omega))) rfl rfl rfl rfl) ?_
            refine scons (CStep.step (PStep.c (p_move (y := .val _) rfl (Sees.of rfl) rfl)) rfl rfl rfl rfl) ?_
            refine snil ?_
            have him : i = m := by omega
            rw [him] at hc4
            refine f_back ⟨(k + 1, u), ?_, ?_, le_ofL ⟨rfl, rfl, rfl, rfl, rfl, (by rw [Sp.listsTo_no hc4]; rfl), rfl, rfl, trivial⟩ rfl⟩
            · show k + 1 ≤ 2 ^ m
              omega
            · show 2 ^ m - (k + 1) < 2 ^ m - k
              omega
    · intro hc1
      try simp only [bs] at hc1
      refine f_exit ?_
      show AWs _ _ _ _ _
      refine f_seq ?_
      refine f_region ?_
      refine scons (CStep.step (PStep.c (p_move (y := .row _ _) rfl (Sees.of rfl) rfl)) rfl rfl rfl rfl) ?_
      refine scons (r_callB rfl wFew2_isf103 (sortFc_spec Go.Proofs.Try.laySFII ints [] (fun _ => True) (Sp.cmpL Sp.cmpI) (fun _ => rfl) (by rw [ltOf_int]; exact lt_swo Sp.lt_int.list) (by rw [ltOf_int]; exact Sp.lt_int.list.tot) (F := 104) (by unfold IsFn; kernel_rfl) (fun x y _ _ => cmpI2_spec x y) u 25 24 (Sp.listsTo yes m k) ((Sp.listsTo yes m k).mergeSort fun x y => !Sp.ltL Sp.lti y x) (by rw [ltOf_int]) (fun _ _ => trivial)) ⟨_, _, rfl, (Sees.of rfl), ⟨_, _, rfl, (Sees.of rfl), rfl⟩⟩ ⟨rfl, trivial⟩ rfl rfl rfl rfl rfl rfl) ?_
      refine snil ?_
      refine f_seq ?_
      refine f_region ?_
      refine scons (CStep.step (PStep.c (p_move (y := .row _ _) rfl (Sees.of rfl) rfl)) rfl rfl rfl rfl) ?_
      refine scons (CStep.step (PStep.c (p_assign (y := .row _ _) rfl (Sees.of rfl) rfl)) rfl rfl rfl rfl) ?_
      refine snil ?_
      refine f_ret ?_
      refine endsN_ret (resN_eq (resN_row rfl rfl rfl rfl) ?_)
      obtain rfl : k = 2 ^ m := by omega
      rfl

theorem cores11_spec (i w : Nat) (hi : i ≤ 60) :
    Spec Go.Proofs.Try.prog 94 [iv i, .ptr (di (w : Int))] (D.bool (w.testBit i)) := by
  refine spec_of' Go.Proofs.Try.func94 rfl Go.Proofs.Try.ntmps94 rfl ?_
  refine f_seq ?_
  refine f_region ?_
  refine scons (CStep.step (PStep.c (p_assign (y := .val _) rfl (Sees.of rfl) rfl)) rfl rfl rfl rfl) ?_
  refine snil ?_
  refine f_seq ?_
  refine f_region ?_
  refine scons (CStep.step (PStep.c (p_load rfl wFew2_agg3 (Sees.of rfl) rfl)) rfl rfl rfl rfl) ?_
  refine scons (CStep.step (PStep.c (p_move (y := .val _) rfl (Sees.of rfl) rfl)) rfl rfl rfl rfl) ?_
  refine scons (CStep.step (PStep.c (p_shr rfl (Sees.of rfl) (Sees.of rfl) (by omega) (by omega))) rfl rfl rfl rfl) ?_
  refine scons (CStep.step (PStep.c (p_and1 rfl (Sees.of rfl) (Sees.of rfl))) rfl rfl rfl rfl) ?_
  refine scons (CStep.step (PStep.c (p_eql rfl (Sees.of rfl) (Sees.of rfl))) rfl rfl rfl rfl) ?_
  refine scons (CStep.step (PStep.c (p_assign (y := .val _) rfl (Sees.of rfl) rfl)) rfl rfl rfl rfl) ?_
  refine snil ?_
  refine f_ret ?_
  refine ends_ret (res_eq (res1 rfl (res_tmp rfl (Sees.of rfl))) ?_)
  rw [← Sp.tb_bit]
  rfl

theorem cores1_spec (w m : Nat) (ls : List (List Int)) (hm : m ≤ 16) (hl : ls.length ≤ 12) :
    Spec Go.Proofs.Try.prog 93 [iv w, .ptr (wdss (Sp.setsD m ls)), .ptr (cnf m ls)] (D.bool (Sp.cannot m ls w)) := by
  refine spec_of' Go.Proofs.Try.func93 rfl Go.Proofs.Try.ntmps93 rfl ?_
  refine f_seq ?_
  refine f_region ?_
  refine scons (r_box (ob := 10003) rfl (Sees.of rfl) rfl rfl rfl rfl rfl rfl) ?_
  refine scons (CStep.step (PStep.c (p_assign (y := .val _) rfl (Sees.of rfl) rfl)) rfl rfl rfl rfl) ?_
  refine snil ?_
  refine f_seq ?_
  refine f_region ?_
  refine scons (CStep.step (PStep.c (p_load rfl wFew2_agg109 (Sees.of rfl) rfl)) rfl rfl rfl rfl) ?_
  refine scons (CStep.step (PStep.c (p_fieldAddr rfl wFew2_fld24_0 wFew2_siz3 (by decide) (Sees.of rfl) rfl rfl)) rfl rfl rfl rfl) ?_
  refine scons (CStep.step (PStep.c (p_load rfl wFew2_agg3 (Sees.of rfl) rfl)) rfl rfl rfl rfl) ?_
  refine scons (CStep.step (PStep.c (p_makeFunc (l := [.tmp 3]) rfl)) rfl rfl rfl rfl) ?_
  refine scons (CStep.step (c_callS (q := true) rfl wFew2_isf85 (open_spec m ls (fun i => w.testBit i) hm) (sa_cons (sh_of (Sees.of rfl) rfl) (sa_cons (sh_of (Sees.of rfl) rfl) (sa_cons (sh_clo (Sees.of rfl) wFew2_isf94 (sl_cons (sh_ref1 Sees.same rfl rfl (sh_of Sees.same rfl)) (sl_nil)) (fun _ => rfl) (fun _ => rfl) (fun y => cores11_spec y.1 w (by have := y.2; omega))) (sa_nil)))) rfl) rfl rfl rfl rfl) ?_
  refine scons (CStep.step (PStep.c (p_not rfl (Sees.of rfl))) rfl rfl rfl rfl) ?_
  refine scons (CStep.step (PStep.c (p_assign (y := .val _) rfl (Sees.of rfl) rfl)) rfl rfl rfl rfl) ?_
  refine snil ?_
  refine f_ret ?_
  refine ends_ret (res_eq (res1 rfl (res_tmp rfl (Sees.of rfl))) ?_)
  rfl

theorem mends11_spec (i w : Nat) (hi : i ≤ 60) :
    Spec Go.Proofs.Try.prog 90 [iv i, .ptr (di (w : Int))] (D.bool (!w.testBit i)) := by
  refine spec_of' Go.Proofs.Try.func90 rfl Go.Proofs.Try.ntmps90 rfl ?_
  refine f_seq ?_
  refine f_region ?_
  refine scons (CStep.step (PStep.c (p_assign (y := .val _) rfl (Sees.of rfl) rfl)) rfl rfl rfl rfl) ?_
  refine snil ?_
  refine f_seq ?_
  refine f_region ?_
  refine scons (CStep.step (PStep.c (p_load rfl wFew2_agg3 (Sees.of rfl) rfl)) rfl rfl rfl rfl) ?_
  refine scons (CStep.step (PStep.c (p_move (y := .val _) rfl (Sees.of rfl) rfl)) rfl rfl rfl rfl) ?_
  refine scons (CStep.step (PStep.c (p_shr rfl (Sees.of rfl) (Sees.of rfl) (by omega) (by omega))) rfl rfl rfl rfl) ?_
  refine scons (CStep.step (PStep.c (p_and1 rfl (Sees.of rfl) (Sees.of rfl))) rfl rfl rfl rfl) ?_
  refine scons (CStep.step (PStep.c (p_eql rfl (Sees.of rfl) (Sees.of rfl))) rfl rfl rfl rfl) ?_
  refine scons (CStep.step (PStep.c (p_assign (y := .val _) rfl (Sees.of rfl) rfl)) rfl rfl rfl rfl) ?_
  refine snil ?_
  refine f_ret ?_
  refine ends_ret (res_eq (res1 rfl (res_tmp rfl (Sees.of rfl))) ?_)
  rw [← Sp.bit_even]
  rfl

theorem mends1_spec (w m : Nat) (ls : List (List Int)) (hm : m ≤ 16) (hl : ls.length ≤ 12) :
    Spec Go.Proofs.Try.prog 89 [iv w, .ptr (wdss (Sp.setsD m ls)), .ptr (cnf m ls)] (D.bool (Sp.canDo m ls w)) := by
  refine spec_of' Go.Proofs.Try.func89 rfl Go.Proofs.Try.ntmps89 rfl ?_
  refine f_seq ?_
  refine f_region ?_
  refine scons (r_box (ob := 10003) rfl (Sees.of rfl) rfl rfl rfl rfl rfl rfl) ?_
  refine scons (CStep.step (PStep.c (p_assign (y := .val _) rfl (Sees.of rfl) rfl)) rfl rfl rfl rfl) ?_
  refine snil ?_
  refine f_seq ?_
  refine f_region ?_
  refine scons (CStep.step (PStep.c (p_load rfl wFew2_agg109 (Sees.of rfl) rfl)) rfl rfl rfl rfl) ?_
  refine scons (CStep.step (PStep.c (p_fieldAddr rfl wFew2_fld24_0 wFew2_siz3 (by decide) (Sees.of rfl) rfl rfl)) rfl rfl rfl rfl) ?_
  refine scons (CStep.step (PStep.c (p_load rfl wFew2_agg3 (Sees.of rfl) rfl)) rfl rfl rfl rfl) ?_
  refine scons (CStep.step (PStep.c (p_makeFunc (l := [.tmp 3]) rfl)) rfl rfl rfl rfl) ?_
  refine scons (CStep.step (c_callS (q := true) rfl wFew2_isf85 (open_spec m ls (fun i => !w.testBit i) hm) (sa_cons (sh_of (Sees.of rfl) rfl) (sa_cons (sh_of (Sees.of rfl) rfl) (sa_cons (sh_clo (Sees.of rfl) wFew2_isf90 (sl_cons (sh_ref1 Sees.same rfl rfl (sh_of Sees.same rfl)) (sl_nil)) (fun _ => rfl) (fun _ => rfl) (fun y => mends11_spec y.1 w (by have := y.2; omega))) (sa_nil)))) rfl) rfl rfl rfl rfl) ?_
  refine scons (CStep.step (PStep.c (p_assign (y := .val _) rfl (Sees.of rfl) rfl)) rfl rfl rfl rfl) ?_
  refine snil ?_
  refine f_ret ?_
  refine ends_ret (res_eq (res1 rfl (res_tmp rfl (Sees.of rfl))) ?_)
  rfl

theorem cores_spec (n : Int) (ls : List (List Int)) :
    Spec Go.Proofs.Try.prog 46 [.val (cnf n ls)] (two (intss (Sp.coresOf n ls).1) (fault (Sp.coresOf n ls).2.1 (Sp.coresOf n ls).2.2)) := by
  refine spec_of' Go.Proofs.Try.func46 rfl Go.Proofs.Try.ntmps46 rfl ?_
  refine f_seq ?_
  refine f_region ?_
  refine scons (r_box (ob := 10001) rfl (Sees.of rfl) rfl rfl rfl rfl rfl rfl) ?_
  refine scons (CStep.step (PStep.c (p_assign (y := .emp) rfl (Sees.of rfl) rfl)) rfl rfl rfl rfl) ?_
  refine scons (r_alloc (ob := 10003) rfl wFew2_zer28 rfl rfl rfl rfl rfl rfl) ?_
  refine snil ?_
  refine f_seq ?_
  refine f_seq ?_
  refine f_region ?_
  refine scons (CStep.step (PStep.c (p_loadBS rfl wFew2_agg24 wFew2_siz24 (Sees.of rfl) rfl rfl rfl)) rfl rfl rfl rfl) ?_
  refine scons (CStep.step (c_call rfl wFew2_isf87 ⟨_, _, rfl, (Sees.of rfl), rfl, rfl⟩ (fewSmall_spec n ls)) rfl rfl rfl rfl) ?_
  refine scons (r_alloc (ob := 10004) rfl wFew2_zer28 rfl rfl rfl rfl rfl rfl) ?_
  refine scons (r_storeS rfl wFew2_siz28 rfl rfl rfl (Sees.of rfl) rfl (Sees.of rfl) rfl rfl rfl rfl) ?_
  refine snil ?_
  refine f_seq ?_
  refine f_region ?_
  refine scons (CStep.step (PStep.c (p_fieldRef rfl wFew2_fld28_0 wFew2_siz3 rfl (Sees.of rfl) rfl)) rfl rfl rfl rfl) ?_
  refine scons (CStep.step (PStep.c (p_loadB (y := .val _) rfl wFew2_agg3 (Sees.of rfl) rfl rfl rfl rfl)) rfl rfl rfl rfl) ?_
  refine scons (CStep.step (PStep.c (p_neq rfl (Sees.of rfl) (Sees.of rfl))) rfl rfl rfl rfl) ?_
  refine snil ?_
  refine f_cond rfl ?_ ?_
  · intro hc1
    try simp only [bs] at hc1
    refine f_seq ?_
    refine f_draw wFew2_mix (by kernel_rfl) ?_
    refine dcons (CStep.step (PStep.c (p_loadBS rfl wFew2_agg28 wFew2_siz28 (Sees.of rfl) rfl rfl rfl)) rfl rfl rfl rfl) ?_
    refine dcons (CStep.step (PStep.c (p_assign (y := .emp) rfl (Sees.of rfl) rfl)) rfl rfl rfl rfl) ?_
    refine dcons (r_storeS rfl wFew2_siz28 rfl rfl rfl (Sees.of rfl) rfl (Sees.of rfl) rfl rfl rfl rfl) ?_
    refine dnil (by kernel_rfl) ?_
    refine f_ret ?_
    refine ends_ret (res_eq (res2 rfl (res_tmp rfl (Sees.emp rfl 1 ints [])) (res_cell (by rfl) rfl rfl wFew2_agg28 wFew2_siz28 rfl rfl)) ?_)
    rw [Sp.coresOf, if_pos hc1]
    all_goals rfl
  · intro hc1
    try simp only [bs] at hc1
    have hsk := Sp.smallW_ok hc1
    have htk := Sp.tryV_ok hsk.1
    obtain ⟨m, rfl⟩ : ∃ m : Nat, n = (m : Int) := ⟨n.toNat, by omega⟩
    have hck := Sp.check_use (m := m) htk.1
    have hll := (Sp.check_ok htk.1).2.1
    have hsl := Sp.setsD_len m ls
    refine f_skip ?_
    refine f_seq ?_
    refine f_region ?_
    refine scons (CStep.step (PStep.c (p_loadBS rfl wFew2_agg24 wFew2_siz24 (Sees.of rfl) rfl rfl rfl)) rfl rfl rfl rfl) ?_
    refine scons (CStep.step (c_call rfl wFew2_isf83 ⟨_, _, rfl, (Sees.of rfl), rfl, rfl⟩ (sets_spec m ls (by omega) hll hck.1)) rfl rfl rfl rfl) ?_
    refine scons (r_alloc (ob := 10005) rfl wFew2_zer109 rfl rfl rfl rfl rfl rfl) ?_
    refine scons (r_store rfl wFew2_siz109 rfl rfl rfl (Sees.of rfl) rfl rfl (Sees.of rfl) (one_val rfl)) ?_
    refine snil ?_
    refine f_seq ?_
    refine f_le (GLe.le (g_seal (k := 5) (o1 := 10005) rfl rfl rfl rfl (shc_one rfl (sh_of (Sees.of rfl) rfl)))) ?_ (by simp)
    refine f_le (GLe.le (g_sealS (k := 1) (o1 := 10001) rfl rfl rfl rfl (shc_cons (sh_of (Sees.of rfl) rfl) (shc_cons (sh_of (Sees.of rfl) rfl) shc_nil)))) ?_ (by simp)
    refine f_region ?_
    refine scons (CStep.step (PStep.c (p_load rfl wFew2_agg109 (Sees.of rfl) rfl)) rfl rfl rfl rfl) ?_
    refine scons (CStep.step (PStep.c (p_len rfl wFew2_isl109 (Sees.of rfl))) rfl rfl rfl rfl) ?_
    refine scons (CStep.step (PStep.c (p_makeFunc (l := [.tmp 5, .tmp 1]) rfl)) rfl rfl rfl rfl) ?_
    refine scons (r_callS (q := false) (ob := 10017) [] rfl wFew2_isf88 (lists_spec (Sp.setsD m ls).length (Sp.cannot m ls) (by omega)) (sa_cons (sh_of (Sees.of rfl) rfl) (sa_cons (sh_clo (Sees.of rfl) wFew2_isf93 (sl_cons (sh_of Sees.same rfl) (sl_cons (sh_of Sees.same rfl) (sl_nil))) (fun _ => rfl) (fun _ => rfl) (fun y => cores1_spec y.1 m ls (by omega) (by omega))) (sa_nil))) (.inl rfl) rfl rfl rfl rfl rfl) ?_
    refine scons (CStep.step (PStep.c (p_build rfl wFew2_plc28 wFew2_zer28 (by decide) wFew2_zch28 rfl rfl)) rfl rfl rfl rfl) ?_
    refine scons (CStep.step (PStep.c (p_assign (y := .row _ _) rfl (Sees.of rfl) rfl)) rfl rfl rfl rfl) ?_
    refine scons (r_storeS rfl wFew2_siz28 rfl rfl rfl (Sees.of rfl) rfl (Sees.of rfl) rfl rfl rfl rfl) ?_
    refine snil ?_
    refine f_ret ?_
    refine ends_ret (res_eq (res2 rfl (res_row rfl rfl rfl) (res_cell (by rfl) rfl rfl wFew2_agg28 wFew2_siz28 rfl rfl)) ?_)
    rw [Sp.coresOf, if_neg (fun h => h hc1), hsl]
    all_goals rfl

theorem mends_spec (n : Int) (ls : List (List Int)) :
    Spec Go.Proofs.Try.prog 42 [.val (cnf n ls)] (two (intss (Sp.mendsOf n ls).1) (fault (Sp.mendsOf n ls).2.1 (Sp.mendsOf n ls).2.2)) := by
  refine spec_of' Go.Proofs.Try.func42 rfl Go.Proofs.Try.ntmps42 rfl ?_
  refine f_seq ?_
  refine f_region ?_
  refine scons (r_box (ob := 10001) rfl (Sees.of rfl) rfl rfl rfl rfl rfl rfl) ?_
  refine scons (CStep.step (PStep.c (p_assign (y := .emp) rfl (Sees.of rfl) rfl)) rfl rfl rfl rfl) ?_
  refine scons (r_alloc (ob := 10003) rfl wFew2_zer28 rfl rfl rfl rfl rfl rfl) ?_
  refine snil ?_
  refine f_seq ?_
  refine f_seq ?_
  refine f_region ?_
  refine scons (CStep.step (PStep.c (p_loadBS rfl wFew2_agg24 wFew2_siz24 (Sees.of rfl) rfl rfl rfl)) rfl rfl rfl rfl) ?_
  refine scons (CStep.step (c_call rfl wFew2_isf87 ⟨_, _, rfl, (Sees.of rfl), rfl, rfl⟩ (fewSmall_spec n ls)) rfl rfl rfl rfl) ?_
  refine scons (r_alloc (ob := 10004) rfl wFew2_zer28 rfl rfl rfl rfl rfl rfl) ?_
  refine scons (r_storeS rfl wFew2_siz28 rfl rfl rfl (Sees.of rfl) rfl (Sees.of rfl) rfl rfl rfl rfl) ?_
  refine snil ?_
  refine f_seq ?_
  refine f_region ?_
  refine scons (CStep.step (PStep.c (p_fieldRef rfl wFew2_fld28_0 wFew2_siz3 rfl (Sees.of rfl) rfl)) rfl rfl rfl rfl) ?_
  refine scons (CStep.step (PStep.c (p_loadB (y := .val _) rfl wFew2_agg3 (Sees.of rfl) rfl rfl rfl rfl)) rfl rfl rfl rfl) ?_
  refine scons (CStep.step (PStep.c (p_neq rfl (Sees.of rfl) (Sees.of rfl))) rfl rfl rfl rfl) ?_
  refine snil ?_
  refine f_cond rfl ?_ ?_
  · intro hc1
    try simp only [bs] at hc1
    refine f_seq ?_
    refine f_draw wFew2_mix (by kernel_rfl) ?_
    refine dcons (CStep.step (PStep.c (p_loadBS rfl wFew2_agg28 wFew2_siz28 (Sees.of rfl) rfl rfl rfl)) rfl rfl rfl rfl) ?_
    refine dcons (CStep.step (PStep.c (p_assign (y := .emp) rfl (Sees.of rfl) rfl)) rfl rfl rfl rfl) ?_
    refine dcons (r_storeS rfl wFew2_siz28 rfl rfl rfl (Sees.of rfl) rfl (Sees.of rfl) rfl rfl rfl rfl) ?_
    refine dnil (by kernel_rfl) ?_
    refine f_ret ?_
    refine ends_ret (res_eq (res2 rfl (res_tmp rfl (Sees.emp rfl 1 ints [])) (res_cell (by rfl) rfl rfl wFew2_agg28 wFew2_siz28 rfl rfl)) ?_)
    rw [Sp.mendsOf, if_pos hc1]
    all_goals rfl
  · intro hc1
    try simp only [bs] at hc1
    have hsk := Sp.smallW_ok hc1
    have htk := Sp.tryV_ok hsk.1
    obtain ⟨m, rfl⟩ : ∃ m : Nat, n = (m : Int) := ⟨n.toNat, by omega⟩
    have hck := Sp.check_use (m := m) htk.1
    have hll := (Sp.check_ok htk.1).2.1
    have hsl := Sp.setsD_len m ls
    refine f_skip ?_
    refine f_seq ?_
    refine f_region ?_
    refine scons (CStep.step (PStep.c (p_loadBS rfl wFew2_agg24 wFew2_siz24 (Sees.of rfl) rfl rfl rfl)) rfl rfl rfl rfl) ?_
    refine scons (CStep.step (c_call rfl wFew2_isf83 ⟨_, _, rfl, (Sees.of rfl), rfl, rfl⟩ (sets_spec m ls (by omega) hll hck.1)) rfl rfl rfl rfl) ?_
    refine scons (r_alloc (ob := 10005) rfl wFew2_zer109 rfl rfl rfl rfl rfl rfl) ?_
    refine scons (r_store rfl wFew2_siz109 rfl rfl rfl (Sees.of rfl) rfl rfl (Sees.of rfl) (one_val rfl)) ?_
    refine snil ?_
    refine f_seq ?_
    refine f_le (GLe.le (g_seal (k := 5) (o1 := 10005) rfl rfl rfl rfl (shc_one rfl (sh_of (Sees.of rfl) rfl)))) ?_ (by simp)
    refine f_le (GLe.le (g_sealS (k := 1) (o1 := 10001) rfl rfl rfl rfl (shc_cons (sh_of (Sees.of rfl) rfl) (shc_cons (sh_of (Sees.of rfl) rfl) shc_nil)))) ?_ (by simp)
    refine f_region ?_
    refine scons (CStep.step (PStep.c (p_load rfl wFew2_agg109 (Sees.of rfl) rfl)) rfl rfl rfl rfl) ?_
    refine scons (CStep.step (PStep.c (p_len rfl wFew2_isl109 (Sees.of rfl))) rfl rfl rfl rfl) ?_
    refine scons (CStep.step (PStep.c (p_makeFunc (l := [.tmp 5, .tmp 1]) rfl)) rfl rfl rfl rfl) ?_
    refine scons (r_callS (q := false) (ob := 10017) [] rfl wFew2_isf88 (lists_spec (Sp.setsD m ls).length (Sp.canDo m ls) (by omega)) (sa_cons (sh_of (Sees.of rfl) rfl) (sa_cons (sh_clo (Sees.of rfl) wFew2_isf89 (sl_cons (sh_of Sees.same rfl) (sl_cons (sh_of Sees.same rfl) (sl_nil))) (fun _ => rfl) (fun _ => rfl) (fun y => mends1_spec y.1 m ls (by omega) (by omega))) (sa_nil))) (.inl rfl) rfl rfl rfl rfl rfl) ?_
    refine scons (CStep.step (PStep.c (p_build rfl wFew2_plc28 wFew2_zer28 (by decide) wFew2_zch28 rfl rfl)) rfl rfl rfl rfl) ?_
    refine scons (CStep.step (PStep.c (p_assign (y := .row _ _) rfl (Sees.of rfl) rfl)) rfl rfl rfl rfl) ?_
    refine scons (r_storeS rfl wFew2_siz28 rfl rfl rfl (Sees.of rfl) rfl (Sees.of rfl) rfl rfl rfl rfl) ?_
    refine snil ?_
    refine f_ret ?_
    refine ends_ret (res_eq (res2 rfl (res_row rfl rfl rfl) (res_cell (by rfl) rfl rfl wFew2_agg28 wFew2_siz28 rfl rfl)) ?_)
    rw [Sp.mendsOf, if_neg (fun h => h hc1), hsl]
    all_goals rfl

end Go.Um
