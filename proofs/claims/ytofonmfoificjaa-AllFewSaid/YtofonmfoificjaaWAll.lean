/- Walks of Go functions of this seat, each by its contract. No condition beyond what each theorem says. -/
import Derived.Test.YtofonmfoificjaaRange
import Derived.Test.YtofonmfoificjaaWEach
import Derived.Test.YtofonmfoificjaaSpF
import Derived.Test.YtofonmfoificjaaProg
import Derived.KernelRfl
set_option maxRecDepth 4000
namespace Go.Um
open Go Go.RowKit

theorem wAll_agg22 : IsAgg Go.Proofs.Try.prog 22 false := by unfold IsAgg; kernel_rfl
theorem wAll_agg24 : IsAgg Go.Proofs.Try.prog 24 true := by unfold IsAgg; kernel_rfl
theorem wAll_agg28 : IsAgg Go.Proofs.Try.prog 28 true := by unfold IsAgg; kernel_rfl
theorem wAll_agg3 : IsAgg Go.Proofs.Try.prog 3 false := by unfold IsAgg; kernel_rfl
theorem wAll_fld24_0 : IsField Go.Proofs.Try.prog 24 0 0 3 := by unfold IsField; kernel_rfl
theorem wAll_fld24_1 : IsField Go.Proofs.Try.prog 24 1 1 22 := by unfold IsField; kernel_rfl
theorem wAll_fld28_0 : IsField Go.Proofs.Try.prog 28 0 0 3 := by unfold IsField; kernel_rfl
theorem wAll_isf124 : IsFn Go.Proofs.Try.prog 124 := by unfold IsFn; kernel_rfl
theorem wAll_isf49 : IsFn Go.Proofs.Try.prog 49 := by unfold IsFn; kernel_rfl
theorem wAll_isf62 : IsFn Go.Proofs.Try.prog 62 := by unfold IsFn; kernel_rfl
theorem wAll_isf66 : IsFn Go.Proofs.Try.prog 66 := by unfold IsFn; kernel_rfl
theorem wAll_isf95 : IsFn Go.Proofs.Try.prog 95 := by unfold IsFn; kernel_rfl
theorem wAll_isl22 : IsSlice Go.Proofs.Try.prog 22 25 := by unfold IsSlice; kernel_rfl
theorem wAll_isl25 : IsSlice Go.Proofs.Try.prog 25 3 := by unfold IsSlice; kernel_rfl
theorem wAll_mix : (Go.Proofs.Try.prog).follows .mixedOrders = true := by kernel_rfl
theorem wAll_plc24 : Places Go.Proofs.Try.prog 24 [(0, 1), (1, 1)] := by unfold Places; kernel_rfl
theorem wAll_plc28 : Places Go.Proofs.Try.prog 28 [(0, 1), (1, 1)] := by unfold Places; kernel_rfl
theorem wAll_siz22 : Size Go.Proofs.Try.prog 22 1 := by unfold Size; kernel_rfl
theorem wAll_siz24 : Size Go.Proofs.Try.prog 24 2 := by unfold Size; kernel_rfl
theorem wAll_siz25 : Size Go.Proofs.Try.prog 25 1 := by unfold Size; kernel_rfl
theorem wAll_siz28 : Size Go.Proofs.Try.prog 28 2 := by unfold Size; kernel_rfl
theorem wAll_siz3 : Size Go.Proofs.Try.prog 3 1 := by unfold Size; kernel_rfl
def wAll_z24 : D := .cons (.int .i64 0) (.cons (intss []) (.nil))
theorem wAll_zch24 : ∀ (ok : Nat → Prop) (w : World), R Go.Proofs.Try.prog wAll_z24 ok w (Value.cells (.agg #[(.int .i64 0), (.slice none 0 0)])).toList := fun _ _ => z_int (z_list (z_nil))
def wAll_z28 : D := .cons (.int .i64 0) (.cons (.int .i64 0) (.nil))
theorem wAll_zch28 : ∀ (ok : Nat → Prop) (w : World), R Go.Proofs.Try.prog wAll_z28 ok w (Value.cells (.agg #[(.int .i64 0), (.int .i64 0)])).toList := fun _ _ => z_int (z_int (z_nil))
theorem wAll_zer24 : Zero Go.Proofs.Try.prog 24 (.agg #[(.int .i64 0), (.slice none 0 0)]) := by unfold Zero; kernel_rfl
theorem wAll_zer25 : Zero Go.Proofs.Try.prog 25 (.slice none 0 0) := by unfold Zero; kernel_rfl
theorem wAll_zer28 : Zero Go.Proofs.Try.prog 28 (.agg #[(.int .i64 0), (.int .i64 0)]) := by unfold Zero; kernel_rfl
theorem wAll_zer3 : Zero Go.Proofs.Try.prog 3 (.int .i64 0) := by unfold Zero; kernel_rfl

theorem allCheck_spec (n : Int) (ls : List (List Int)) :
    Spec Go.Proofs.Try.prog 62 [.val (cnf n ls)] (fault (Sp.tryW n ls).1 (Sp.tryW n ls).2) := by
  refine spec_of' Go.Proofs.Try.func62 rfl Go.Proofs.Try.ntmps62 rfl ?_
  refine f_seq ?_
  refine f_region ?_
  refine scons (r_box (ob := 10001) rfl (Sees.of rfl) rfl rfl rfl rfl rfl rfl) ?_
  refine scons (r_alloc (ob := 10002) rfl wAll_zer28 rfl rfl rfl rfl rfl rfl) ?_
  refine snil ?_
  refine f_seq ?_
  refine f_seq ?_
  refine f_region ?_
  refine scons (CStep.step (PStep.c (p_loadBS rfl wAll_agg24 wAll_siz24 (Sees.of rfl) rfl rfl rfl)) rfl rfl rfl rfl) ?_
  refine scons (CStep.step (c_call rfl wAll_isf95 ⟨_, _, rfl, (Sees.of rfl), rfl, rfl⟩ (ccheck_spec n ls)) rfl rfl rfl rfl) ?_
  refine scons (r_alloc (ob := 10003) rfl wAll_zer28 rfl rfl rfl rfl rfl rfl) ?_
  refine scons (r_storeS rfl wAll_siz28 rfl rfl rfl (Sees.of rfl) rfl (Sees.of rfl) rfl rfl rfl rfl) ?_
  refine snil ?_
  refine f_seq ?_
  refine f_region ?_
  refine scons (CStep.step (PStep.c (p_fieldRef rfl wAll_fld28_0 wAll_siz3 rfl (Sees.of rfl) rfl)) rfl rfl rfl rfl) ?_
  refine scons (CStep.step (PStep.c (p_loadB (y := .val _) rfl wAll_agg3 (Sees.of rfl) rfl rfl rfl rfl)) rfl rfl rfl rfl) ?_
  refine scons (CStep.step (PStep.c (p_neq rfl (Sees.of rfl) (Sees.of rfl))) rfl rfl rfl rfl) ?_
  refine snil ?_
  refine f_cond rfl ?_ ?_
  · intro hc1
    try simp only [bs] at hc1
    refine f_seq ?_
    refine f_region ?_
    refine scons (CStep.step (PStep.c (p_loadBS rfl wAll_agg28 wAll_siz28 (Sees.of rfl) rfl rfl rfl)) rfl rfl rfl rfl) ?_
    refine scons (r_storeS rfl wAll_siz28 rfl rfl rfl (Sees.of rfl) rfl (Sees.of rfl) rfl rfl rfl rfl) ?_
    refine snil ?_
    refine f_ret ?_
    refine ends_ret (res_eq (res1 rfl (res_cell (by rfl) rfl rfl wAll_agg28 wAll_siz28 rfl rfl)) ?_)
    rw [Sp.tryW, if_pos hc1]
    all_goals rfl
  · intro hc1
    try simp only [bs] at hc1
    refine f_skip ?_
    refine f_seq ?_
    refine f_seq ?_
    refine f_region ?_
    refine scons (CStep.step (PStep.c (p_fieldRef rfl wAll_fld24_0 wAll_siz3 rfl (Sees.of rfl) rfl)) rfl rfl rfl rfl) ?_
    refine scons (CStep.step (PStep.c (p_loadB (y := .val _) rfl wAll_agg3 (Sees.of rfl) rfl rfl rfl rfl)) rfl rfl rfl rfl) ?_
    refine scons (CStep.step (PStep.c (p_gtr rfl (Sees.of rfl) (Sees.of rfl))) rfl rfl rfl rfl) ?_
    refine snil ?_
    refine f_cond rfl ?_ ?_
    · intro hc2
      try simp only [bs] at hc2
      refine f_seq ?_
      refine f_region ?_
      refine scons (CStep.step (PStep.c (p_build rfl wAll_plc28 wAll_zer28 (by decide) wAll_zch28 ⟨_, _, _, rfl, rfl, rfl, (Sees.of rfl), ⟨_, _, _, rfl, rfl, rfl, (Sees.of rfl), rfl⟩⟩ rfl)) rfl rfl rfl rfl) ?_
      refine scons (r_storeS rfl wAll_siz28 rfl rfl rfl (Sees.of rfl) rfl (Sees.of rfl) rfl rfl rfl rfl) ?_
      refine snil ?_
      refine f_ret ?_
      refine ends_ret (res_eq (res1 rfl (res_cell (by rfl) rfl rfl wAll_agg28 wAll_siz28 rfl rfl)) ?_)
      rw [Sp.tryW, if_neg (fun h => h hc1), if_pos (by omega)]
      all_goals rfl
    · intro hc2
      try simp only [bs] at hc2
      refine f_skip ?_
      refine f_seq ?_
      refine f_region ?_
      refine scons (CStep.step (PStep.c (p_build rfl wAll_plc28 wAll_zer28 (by decide) wAll_zch28 rfl rfl)) rfl rfl rfl rfl) ?_
      refine scons (r_storeS rfl wAll_siz28 rfl rfl rfl (Sees.of rfl) rfl (Sees.of rfl) rfl rfl rfl rfl) ?_
      refine snil ?_
      refine f_ret ?_
      refine ends_ret (res_eq (res1 rfl (res_cell (by rfl) rfl rfl wAll_agg28 wAll_siz28 rfl rfl)) ?_)
      rw [Sp.tryW, if_neg (fun h => h hc1), if_neg (by omega)]
      all_goals rfl

theorem tryWrong_spec (n : Int) (ls : List (List Int)) :
    Spec Go.Proofs.Try.prog 37 [.val (cnf n ls)] (fault (Sp.tryW n ls).1 (Sp.tryW n ls).2) := by
  refine spec_of' Go.Proofs.Try.func37 rfl Go.Proofs.Try.ntmps37 rfl ?_
  refine f_seq ?_
  refine f_region ?_
  refine scons (r_box (ob := 10001) rfl (Sees.of rfl) rfl rfl rfl rfl rfl rfl) ?_
  refine scons (r_alloc (ob := 10002) rfl wAll_zer28 rfl rfl rfl rfl rfl rfl) ?_
  refine snil ?_
  refine f_seq ?_
  refine f_region ?_
  refine scons (CStep.step (PStep.c (p_loadBS rfl wAll_agg24 wAll_siz24 (Sees.of rfl) rfl rfl rfl)) rfl rfl rfl rfl) ?_
  refine scons (CStep.step (c_call rfl wAll_isf49 ⟨_, _, rfl, (Sees.of rfl), rfl, rfl⟩ (check_spec n ls)) rfl rfl rfl rfl) ?_
  refine scons (r_alloc (ob := 10003) rfl wAll_zer28 rfl rfl rfl rfl rfl rfl) ?_
  refine scons (r_storeS rfl wAll_siz28 rfl rfl rfl (Sees.of rfl) rfl (Sees.of rfl) rfl rfl rfl rfl) ?_
  refine snil ?_
  refine f_seq ?_
  refine f_seq ?_
  refine f_region ?_
  refine scons (CStep.step (PStep.c (p_fieldRef rfl wAll_fld28_0 wAll_siz3 rfl (Sees.of rfl) rfl)) rfl rfl rfl rfl) ?_
  refine scons (CStep.step (PStep.c (p_loadB (y := .val _) rfl wAll_agg3 (Sees.of rfl) rfl rfl rfl rfl)) rfl rfl rfl rfl) ?_
  refine scons (CStep.step (PStep.c (p_eql rfl (Sees.of rfl) (Sees.of rfl))) rfl rfl rfl rfl) ?_
  refine scons (CStep.step (PStep.c (p_move (y := .val _) rfl (Sees.of rfl) rfl)) rfl rfl rfl rfl) ?_
  refine scons (CStep.guard rfl rfl rfl (fun hg0 => PStep.c (p_fieldRef rfl wAll_fld24_0 wAll_siz3 rfl (Sees.of rfl) rfl)) rfl rfl rfl rfl rfl) ?_
  refine scons (CStep.guard rfl rfl rfl (fun hg0 => PStep.c (p_loadB (y := .val _) rfl wAll_agg3 (Sees.gv' rfl hg0) rfl rfl rfl rfl)) rfl rfl rfl rfl rfl) ?_
  refine scons (CStep.guard rfl rfl rfl (fun hg0 => PStep.c (p_gtr rfl (Sees.gv' rfl hg0) (Sees.of rfl))) rfl rfl rfl rfl rfl) ?_
  refine scons (CStep.step (PStep.c (p_and rfl (Sees.of rfl) (fun h => Sees.gv' rfl (beq_of_eq h)) (Sees.of rfl))) rfl rfl rfl rfl) ?_
  refine snil ?_
  refine f_cond rfl ?_ ?_
  · intro hc1
    try simp only [bs] at hc1
    refine f_region ?_
    refine scons (CStep.step (PStep.c (p_build rfl wAll_plc28 wAll_zer28 (by decide) wAll_zch28 ⟨_, _, _, rfl, rfl, rfl, (Sees.of rfl), ⟨_, _, _, rfl, rfl, rfl, (Sees.of rfl), rfl⟩⟩ rfl)) rfl rfl rfl rfl) ?_
    refine scons (r_storeS rfl wAll_siz28 rfl rfl rfl (Sees.of rfl) rfl (Sees.of rfl) rfl rfl rfl rfl) ?_
    refine snil ?_
    refine f_seq ?_
    refine f_region ?_
    refine scons (CStep.step (PStep.c (p_loadBS rfl wAll_agg28 wAll_siz28 (Sees.of rfl) rfl rfl rfl)) rfl rfl rfl rfl) ?_
    refine scons (r_storeS rfl wAll_siz28 rfl rfl rfl (Sees.of rfl) rfl (Sees.of rfl) rfl rfl rfl rfl) ?_
    refine snil ?_
    refine f_ret ?_
    refine ends_ret (res_eq (res1 rfl (res_cell (by rfl) rfl rfl wAll_agg28 wAll_siz28 rfl rfl)) ?_)
    rw [Sp.tryW, if_neg (fun h => h hc1.1), if_pos (by omega)]
    all_goals rfl
  · intro hc1
    try simp only [bs] at hc1
    refine f_skip ?_
    refine f_seq ?_
    refine f_region ?_
    refine scons (CStep.step (PStep.c (p_loadBS rfl wAll_agg28 wAll_siz28 (Sees.of rfl) rfl rfl rfl)) rfl rfl rfl rfl) ?_
    refine scons (r_storeS rfl wAll_siz28 rfl rfl rfl (Sees.of rfl) rfl (Sees.of rfl) rfl rfl rfl rfl) ?_
    refine snil ?_
    refine f_ret ?_
    refine ends_ret (res_eq (res1 rfl (res_cell (by rfl) rfl rfl wAll_agg28 wAll_siz28 rfl rfl)) ?_)
    by_cases h : (Sp.check n ls).1 = 0
    · rw [Sp.tryW, if_neg (fun h2 => h2 h), if_neg (by omega), Sp.check_zero h]
      all_goals rfl
    · rw [Sp.tryW, if_pos h]
      all_goals rfl

theorem each_spec (n : Nat) (ls : List (List Int)) : SpecA Go.Proofs.Try.prog 66 [.val (intss ls), iv n] (.clo 124 (chainL [.ptr (di n), .ptr (intss ls)])) := by
  refine specA_of' Go.Proofs.Try.func66 rfl Go.Proofs.Try.ntmps66 rfl ?_
  refine f_seq ?_
  refine f_region ?_
  refine scons (r_box (ob := 10002) rfl (Sees.of rfl) rfl rfl rfl rfl rfl rfl) ?_
  refine scons (r_box (ob := 10003) rfl (Sees.of rfl) rfl rfl rfl rfl rfl rfl) ?_
  refine scons (CStep.step (PStep.c (p_assign (y := .any) rfl (Sees.of rfl) rfl)) rfl rfl rfl rfl) ?_
  refine snil ?_
  refine f_seq ?_
  refine f_region ?_
  refine scons (CStep.step (PStep.c (p_makeFunc (l := [.tmp 3, .tmp 2]) rfl)) rfl rfl rfl rfl) ?_
  refine scons (CStep.step (PStep.c (p_assign (y := .clo _ _) rfl (Sees.of rfl) rfl)) rfl rfl rfl rfl) ?_
  refine snil ?_
  refine f_ret ?_
  exact endsA_ret (resA_clo rfl rfl rfl (sl_cons (sh_ref1 (Sees.of rfl) rfl rfl (sh_of Sees.same rfl)) (sl_cons (sh_ref1 (Sees.of rfl) rfl rfl (sh_of Sees.same rfl)) sl_nil)))

theorem Count_spec (n : Int) (ls : List (List Int)) :
    Spec Go.Proofs.Try.prog 21 [.val (cnf n ls)] (two (di (Sp.count n ls).1) (fault (Sp.count n ls).2.1 (Sp.count n ls).2.2)) := by
  refine spec_of' Go.Proofs.Try.func21 rfl Go.Proofs.Try.ntmps21 rfl ?_
  refine f_seq ?_
  refine f_region ?_
  refine scons (r_box (ob := 10001) rfl (Sees.of rfl) rfl rfl rfl rfl rfl rfl) ?_
  refine scons (CStep.step (PStep.c (p_assign (y := .val _) rfl (Sees.of rfl) rfl)) rfl rfl rfl rfl) ?_
  refine scons (r_alloc (ob := 10003) rfl wAll_zer28 rfl rfl rfl rfl rfl rfl) ?_
  refine snil ?_
  refine f_seq ?_
  refine f_seq ?_
  refine f_region ?_
  refine scons (CStep.step (PStep.c (p_loadBS rfl wAll_agg24 wAll_siz24 (Sees.of rfl) rfl rfl rfl)) rfl rfl rfl rfl) ?_
  refine scons (CStep.step (c_call rfl wAll_isf62 ⟨_, _, rfl, (Sees.of rfl), rfl, rfl⟩ (allCheck_spec n ls)) rfl rfl rfl rfl) ?_
  refine scons (r_alloc (ob := 10004) rfl wAll_zer28 rfl rfl rfl rfl rfl rfl) ?_
  refine scons (r_storeS rfl wAll_siz28 rfl rfl rfl (Sees.of rfl) rfl (Sees.of rfl) rfl rfl rfl rfl) ?_
  refine snil ?_
  refine f_seq ?_
  refine f_region ?_
  refine scons (CStep.step (PStep.c (p_fieldRef rfl wAll_fld28_0 wAll_siz3 rfl (Sees.of rfl) rfl)) rfl rfl rfl rfl) ?_
  refine scons (CStep.step (PStep.c (p_loadB (y := .val _) rfl wAll_agg3 (Sees.of rfl) rfl rfl rfl rfl)) rfl rfl rfl rfl) ?_
  refine scons (CStep.step (PStep.c (p_neq rfl (Sees.of rfl) (Sees.of rfl))) rfl rfl rfl rfl) ?_
  refine snil ?_
  refine f_cond rfl ?_ ?_
  · intro hc1
    try simp only [bs] at hc1
    refine f_seq ?_
    refine f_draw wAll_mix (by kernel_rfl) ?_
    refine dcons (CStep.step (PStep.c (p_loadBS rfl wAll_agg28 wAll_siz28 (Sees.of rfl) rfl rfl rfl)) rfl rfl rfl rfl) ?_
    refine dcons (CStep.step (PStep.c (p_assign (y := .val _) rfl (Sees.of rfl) rfl)) rfl rfl rfl rfl) ?_
    refine dcons (r_storeS rfl wAll_siz28 rfl rfl rfl (Sees.of rfl) rfl (Sees.of rfl) rfl rfl rfl rfl) ?_
    refine dnil (by kernel_rfl) ?_
    refine f_ret ?_
    refine ends_ret (res_eq (res2 rfl (res_tmp rfl (Sees.of rfl)) (res_cell (by rfl) rfl rfl wAll_agg28 wAll_siz28 rfl rfl)) ?_)
    rw [Sp.count, if_pos hc1]
    all_goals rfl
  · intro hc1
    try simp only [bs] at hc1
    obtain ⟨m, rfl⟩ : ∃ m : Nat, n = (m : Int) := ⟨n.toNat, by have := Sp.tryW_ok hc1; omega⟩
    have hko := Sp.tryW_ok hc1
    have hG := Sp.check_good hko.1 (m := m) rfl
    have hp16 := Sp.pow16 (n := m) (by omega)
    refine f_skip ?_
    refine f_seq ?_
    refine f_region ?_
    refine scons (r_alloc (ob := 10005) rfl wAll_zer3 rfl rfl rfl rfl rfl rfl) ?_
    refine scons (r_store rfl wAll_siz3 rfl rfl rfl (Sees.of rfl) rfl rfl (Sees.of rfl) (one_val rfl)) ?_
    refine snil ?_
    refine f_seq ?_
    refine f_seq ?_
    refine f_region ?_
    refine scons (CStep.step (PStep.c (p_fieldRef rfl wAll_fld24_1 wAll_siz22 rfl (Sees.of rfl) rfl)) rfl rfl rfl rfl) ?_
    refine scons (CStep.step (PStep.c (p_loadB (y := .val _) rfl wAll_agg22 (Sees.of rfl) rfl rfl rfl rfl)) rfl rfl rfl rfl) ?_
    refine scons (CStep.step (PStep.c (p_fieldRef rfl wAll_fld24_0 wAll_siz3 rfl (Sees.of rfl) rfl)) rfl rfl rfl rfl) ?_
    refine scons (CStep.step (PStep.c (p_loadB (y := .val _) rfl wAll_agg3 (Sees.of rfl) rfl rfl rfl rfl)) rfl rfl rfl rfl) ?_
    refine scons (CStep.step (c_callA rfl wAll_isf66 (each_spec m ls) (sa_cons (sh_of (Sees.of rfl) rfl) (sa_cons (sh_of (Sees.of rfl) rfl) (sa_nil))) rfl) rfl rfl rfl rfl) ?_
    refine snil ?_
    refine f_block ?_
    refine f_range [(16, .clo 124 (.ccons (.ptr (di m)) (.ccons (.ptr (intss ls)) .cnil))), (3, .ref 10003 0 0), (5, .ref 10005 0 0)] (fun k => [(10003, .box 0 (.ccons (iv 0) (.ccons (iv 0) .cnil))), (10005, .box 0 (.ccons (iv ((Sp.modsTo m ls k).length : Nat)) .cnil))]) (fun _ => none) (fun k => True) (fun k => True) (trivial) (fun _ _ _ h => h) rfl (each1_iter m (by omega) ls hG) wAll_isf124 rfl (le_ofL ⟨rfl, rfl, rfl, rfl, rfl, trivial⟩ rfl) rfl rfl (fun k hk hy => ⟨rfl, fun _ _ h => by cases h⟩) (fun _ => rfl) (fun k hk hy => by show _ = _; rw [Sp.modsTo_no hy]) ?_ ?_ ?_
    · intro k hk hy hI
      have hml := Sp.modsTo_len m k ls
      refine f_skip ?_
      refine f_nil ?_
      show AWs _ _ _ _ _
      refine f_block ?_
      refine f_region ?_
      refine scons (CStep.step (PStep.c (p_loadB (y := .val _) rfl wAll_agg3 (Sees.of rfl) rfl rfl rfl rfl)) rfl rfl rfl rfl) ?_
      refine scons (CStep.step (PStep.c (p_add rfl (Sees.of rfl) (Sees.of rfl) (by omega))) rfl rfl rfl rfl) ?_
      refine scons (r_store rfl wAll_siz3 rfl rfl rfl (Sees.of rfl) rfl rfl (Sees.of rfl) (one_val rfl)) ?_
      refine snil ?_
      refine f_nil ?_
      show AWs _ _ _ _ _
      refine f_nil ?_
      exact ⟨trivial, rfl, rfl, (by rw [Sp.modsTo_yes hy]; simp; rfl), trivial⟩
    · intro hI
      refine f_nil ?_
      show AWs _ _ _ _ _
      refine f_seq ?_
      refine f_region ?_
      refine scons (CStep.step (PStep.c (p_loadB (y := .val _) rfl wAll_agg3 (Sees.of rfl) rfl rfl rfl rfl)) rfl rfl rfl rfl) ?_
      refine scons (CStep.step (PStep.c (p_build rfl wAll_plc28 wAll_zer28 (by decide) wAll_zch28 rfl rfl)) rfl rfl rfl rfl) ?_
      refine scons (CStep.step (PStep.c (p_assign (y := .val _) rfl (Sees.of rfl) rfl)) rfl rfl rfl rfl) ?_
      refine scons (r_storeS rfl wAll_siz28 rfl rfl rfl (Sees.of rfl) rfl (Sees.of rfl) rfl rfl rfl rfl) ?_
      refine snil ?_
      refine f_ret ?_
      refine ends_ret (res_eq (res2 rfl (res_tmp rfl (Sees.of rfl)) (res_cell (by rfl) rfl rfl wAll_agg28 wAll_siz28 rfl rfl)) ?_)
      rw [Sp.count, if_neg (fun h => h hc1)]
      all_goals rfl
    · intro k id S _ _ _ h; cases h

theorem pair_spec  :
    Spec Go.Proofs.Try.prog 23 [] (cnf 2 [[1, 2], [-1]]) := by
  refine spec_of' Go.Proofs.Try.func23 rfl Go.Proofs.Try.ntmps23 rfl ?_
  refine f_seq ?_
  refine f_region ?_
  refine scons (r_alloc (ob := 10000) rfl wAll_zer24 rfl rfl rfl rfl rfl rfl) ?_
  refine snil ?_
  refine f_seq ?_
  refine f_region ?_
  refine scons (CStep.step (c_buildSlice (f := di) (za := 0) (xs := [.const (.int .i64 1), .const (.int .i64 2)]) rfl rfl wAll_isl25 wAll_siz3 wAll_zer3 rfl rfl ⟨_, _, rfl, (Sees.of rfl), rfl, rfl, ⟨_, _, rfl, (Sees.of rfl), rfl, rfl, rfl⟩⟩) rfl rfl rfl rfl) ?_
  refine scons (CStep.step (c_buildSlice (f := di) (za := 0) (xs := [.const (.int .i64 (-1))]) rfl rfl wAll_isl25 wAll_siz3 wAll_zer3 rfl rfl ⟨_, _, rfl, (Sees.of rfl), rfl, rfl, rfl⟩) rfl rfl rfl rfl) ?_
  refine scons (CStep.step (c_buildSlice (f := ints) (za := []) (xs := [.tmp 1, .tmp 2]) rfl rfl wAll_isl22 wAll_siz25 wAll_zer25 rfl rfl ⟨_, _, rfl, (Sees.of rfl), rfl, rfl, ⟨_, _, rfl, (Sees.of rfl), rfl, rfl, rfl⟩⟩) rfl rfl rfl rfl) ?_
  refine scons (CStep.step (PStep.c (p_build rfl wAll_plc24 wAll_zer24 (by decide) wAll_zch24 ⟨_, _, _, rfl, rfl, rfl, (Sees.of rfl), ⟨_, _, _, rfl, rfl, rfl, (Sees.of rfl), rfl⟩⟩ rfl)) rfl rfl rfl rfl) ?_
  refine scons (r_storeS rfl wAll_siz24 rfl rfl rfl (Sees.of rfl) rfl (Sees.of rfl) rfl rfl rfl rfl) ?_
  refine snil ?_
  refine f_ret ?_
  refine ends_ret (res_eq (res1 rfl (res_cell (by rfl) rfl rfl wAll_agg24 wAll_siz24 rfl rfl)) ?_)
  rfl

theorem tooMany_spec (n : Int) (ls : List (List Int)) :
    Spec Go.Proofs.Try.prog 19 [.val (cnf n ls)] (D.bool (Sp.tooM n ls)) := by
  refine spec_of' Go.Proofs.Try.func19 rfl Go.Proofs.Try.ntmps19 rfl ?_
  refine f_seq ?_
  refine f_region ?_
  refine scons (r_box (ob := 10001) rfl (Sees.of rfl) rfl rfl rfl rfl rfl rfl) ?_
  refine scons (CStep.step (PStep.c (p_assign (y := .val _) rfl (Sees.of rfl) rfl)) rfl rfl rfl rfl) ?_
  refine snil ?_
  refine f_seq ?_
  refine f_region ?_
  refine scons (CStep.step (PStep.c (p_fieldRef rfl wAll_fld24_0 wAll_siz3 rfl (Sees.of rfl) rfl)) rfl rfl rfl rfl) ?_
  refine scons (CStep.step (PStep.c (p_loadB (y := .val _) rfl wAll_agg3 (Sees.of rfl) rfl rfl rfl rfl)) rfl rfl rfl rfl) ?_
  refine scons (CStep.step (PStep.c (p_gtr rfl (Sees.of rfl) (Sees.of rfl))) rfl rfl rfl rfl) ?_
  refine scons (CStep.step (PStep.c (p_move (y := .val _) rfl (Sees.of rfl) rfl)) rfl rfl rfl rfl) ?_
  refine scons (CStep.guard rfl rfl rfl (fun hg0 => PStep.c (p_fieldRef rfl wAll_fld24_0 wAll_siz3 rfl (Sees.of rfl) rfl)) rfl rfl rfl rfl rfl) ?_
  refine scons (CStep.guard rfl rfl rfl (fun hg0 => PStep.c (p_loadB (y := .val _) rfl wAll_agg3 (Sees.gv' rfl hg0) rfl rfl rfl rfl)) rfl rfl rfl rfl rfl) ?_
  refine scons (CStep.guard rfl rfl rfl (fun hg0 => PStep.c (p_leq rfl (Sees.gv' rfl hg0) (Sees.of rfl))) rfl rfl rfl rfl rfl) ?_
  refine scons (CStep.step (PStep.c (p_and rfl (Sees.of rfl) (fun h => Sees.gv' rfl (beq_of_eq h)) (Sees.of rfl))) rfl rfl rfl rfl) ?_
  refine scons (CStep.step (PStep.c (p_move (y := .val _) rfl (Sees.of rfl) rfl)) rfl rfl rfl rfl) ?_
  refine scons (CStep.guard rfl rfl rfl (fun hg0 => PStep.c (p_fieldRef rfl wAll_fld24_1 wAll_siz22 rfl (Sees.of rfl) rfl)) rfl rfl rfl rfl rfl) ?_
  refine scons (CStep.guard rfl rfl rfl (fun hg0 => PStep.c (p_loadB (y := .val _) rfl wAll_agg22 (Sees.gv' rfl hg0) rfl rfl rfl rfl)) rfl rfl rfl rfl rfl) ?_
  refine scons (CStep.guard rfl rfl rfl (fun hg0 => PStep.c (p_len rfl wAll_isl22 (Sees.gv' rfl hg0))) rfl rfl rfl rfl rfl) ?_
  refine scons (CStep.guard rfl rfl rfl (fun hg0 => PStep.c (p_gtr rfl (Sees.gv' rfl hg0) (Sees.of rfl))) rfl rfl rfl rfl rfl) ?_
  refine scons (CStep.guard rfl rfl rfl (fun hg0 => PStep.c (p_move (y := .val _) rfl (Sees.gv' rfl hg0) rfl)) rfl rfl rfl rfl rfl) ?_
  refine scons (CStep.guard2 rfl rfl rfl (fun hg1 hg0 => PStep.c (p_fieldRef rfl wAll_fld24_1 wAll_siz22 rfl (Sees.of rfl) rfl)) rfl rfl rfl rfl rfl) ?_
  refine scons (CStep.guard2 rfl rfl rfl (fun hg1 hg0 => PStep.c (p_loadB (y := .val _) rfl wAll_agg22 (Sees.gv' rfl (and_true_of hg1 hg0)) rfl rfl rfl rfl)) rfl rfl rfl rfl rfl) ?_
  refine scons (CStep.guard2 rfl rfl rfl (fun hg1 hg0 => PStep.c (p_len rfl wAll_isl22 (Sees.gv' rfl (and_true_of hg1 hg0)))) rfl rfl rfl rfl rfl) ?_
  refine scons (CStep.guard2 rfl rfl rfl (fun hg1 hg0 => PStep.c (p_leq rfl (Sees.gv' rfl (and_true_of hg1 hg0)) (Sees.of rfl))) rfl rfl rfl rfl rfl) ?_
  refine scons (CStep.guard rfl rfl rfl (fun hg0 => PStep.c (p_and rfl (Sees.gv' rfl hg0) (fun h => Sees.gv' rfl (and_true_of hg0 (beq_of_eq h))) (Sees.of rfl))) rfl rfl rfl rfl rfl) ?_
  refine scons (CStep.step (PStep.c (p_or rfl (Sees.of rfl) (Sees.of rfl) (fun h => Sees.gv' rfl (beq_of_eq h)))) rfl rfl rfl rfl) ?_
  refine scons (CStep.step (PStep.c (p_assign (y := .val _) rfl (Sees.of rfl) rfl)) rfl rfl rfl rfl) ?_
  refine snil ?_
  refine f_ret ?_
  refine ends_ret (res_eq (res1 rfl (res_tmp rfl (Sees.of rfl))) ?_)
  unfold Sp.tooM
  simp

end Go.Um
