/- Walks of Go functions of this seat, each by its contract. No condition beyond what each theorem says. -/
import Derived.Test.YtmpnbklgbehplaaWAll2
import Derived.Test.YtmpnbklgbehplaaSpG
import Derived.Test.YtmpnbklgbehplaaProg
import Derived.KernelRfl
set_option maxRecDepth 4000
namespace Go.Um
open Go Go.RowKit

theorem wAll3_agg22 : IsAgg Go.Proofs.Try.prog 22 false := by unfold IsAgg; kernel_rfl
theorem wAll3_agg24 : IsAgg Go.Proofs.Try.prog 24 false := by unfold IsAgg; kernel_rfl
theorem wAll3_agg26 : IsAgg Go.Proofs.Try.prog 26 true := by unfold IsAgg; kernel_rfl
theorem wAll3_agg28 : IsAgg Go.Proofs.Try.prog 28 true := by unfold IsAgg; kernel_rfl
theorem wAll3_agg3 : IsAgg Go.Proofs.Try.prog 3 false := by unfold IsAgg; kernel_rfl
theorem wAll3_agg33 : IsAgg Go.Proofs.Try.prog 33 false := by unfold IsAgg; kernel_rfl
theorem wAll3_agg4 : IsAgg Go.Proofs.Try.prog 4 false := by unfold IsAgg; kernel_rfl
theorem wAll3_byt3 : Bytes Go.Proofs.Try.prog 3 8 := by unfold Bytes; kernel_rfl
theorem wAll3_byt33 : Bytes Go.Proofs.Try.prog 33 24 := by unfold Bytes; kernel_rfl
theorem wAll3_byt4 : Bytes Go.Proofs.Try.prog 4 1 := by unfold Bytes; kernel_rfl
theorem wAll3_eq228 : Eq2 Go.Proofs.Try.prog 28 := ⟨_, _, Go.Proofs.Try.underlying28, by decide, by decide, rfl, rfl, Go.Proofs.Try.underlying3, Go.Proofs.Try.underlying3, by kernel_rfl, by kernel_rfl⟩
theorem wAll3_fld26_0 : IsField Go.Proofs.Try.prog 26 0 0 3 := by unfold IsField; kernel_rfl
theorem wAll3_fld26_1 : IsField Go.Proofs.Try.prog 26 1 1 24 := by unfold IsField; kernel_rfl
theorem wAll3_fld28_0 : IsField Go.Proofs.Try.prog 28 0 0 3 := by unfold IsField; kernel_rfl
theorem wAll3_int3 : IsInt Go.Proofs.Try.prog 3 .i64 := by unfold IsInt; kernel_rfl
theorem wAll3_int35 : IsInt Go.Proofs.Try.prog 35 .u64 := by unfold IsInt; kernel_rfl
theorem wAll3_isf18 : IsFn Go.Proofs.Try.prog 18 := by unfold IsFn; kernel_rfl
theorem wAll3_isf23 : IsFn Go.Proofs.Try.prog 23 := by unfold IsFn; kernel_rfl
theorem wAll3_isf24 : IsFn Go.Proofs.Try.prog 24 := by unfold IsFn; kernel_rfl
theorem wAll3_isf25 : IsFn Go.Proofs.Try.prog 25 := by unfold IsFn; kernel_rfl
theorem wAll3_isf26 : IsFn Go.Proofs.Try.prog 26 := by unfold IsFn; kernel_rfl
theorem wAll3_isf27 : IsFn Go.Proofs.Try.prog 27 := by unfold IsFn; kernel_rfl
theorem wAll3_isf29 : IsFn Go.Proofs.Try.prog 29 := by unfold IsFn; kernel_rfl
theorem wAll3_isf30 : IsFn Go.Proofs.Try.prog 30 := by unfold IsFn; kernel_rfl
theorem wAll3_isf31 : IsFn Go.Proofs.Try.prog 31 := by unfold IsFn; kernel_rfl
theorem wAll3_isf32 : IsFn Go.Proofs.Try.prog 32 := by unfold IsFn; kernel_rfl
theorem wAll3_isf55 : IsFn Go.Proofs.Try.prog 55 := by unfold IsFn; kernel_rfl
theorem wAll3_isf58 : IsFn Go.Proofs.Try.prog 58 := by unfold IsFn; kernel_rfl
theorem wAll3_isf59 : IsFn Go.Proofs.Try.prog 59 := by unfold IsFn; kernel_rfl
theorem wAll3_isf61 : IsFn Go.Proofs.Try.prog 61 := by unfold IsFn; kernel_rfl
theorem wAll3_isf62 : IsFn Go.Proofs.Try.prog 62 := by unfold IsFn; kernel_rfl
theorem wAll3_isf63 : IsFn Go.Proofs.Try.prog 63 := by unfold IsFn; kernel_rfl
theorem wAll3_isf64 : IsFn Go.Proofs.Try.prog 64 := by unfold IsFn; kernel_rfl
theorem wAll3_isf88 : IsFn Go.Proofs.Try.prog 88 := by unfold IsFn; kernel_rfl
theorem wAll3_isl22 : IsSlice Go.Proofs.Try.prog 22 3 := by unfold IsSlice; kernel_rfl
theorem wAll3_isl33 : IsSlice Go.Proofs.Try.prog 33 4 := by unfold IsSlice; kernel_rfl
theorem wAll3_isl49 : IsSlice Go.Proofs.Try.prog 49 33 := by unfold IsSlice; kernel_rfl
theorem wAll3_mix : (Go.Proofs.Try.prog).follows .mixedOrders = true := by kernel_rfl
theorem wAll3_plc28 : Places Go.Proofs.Try.prog 28 [(0, 1), (1, 1)] := by unfold Places; kernel_rfl
theorem wAll3_siz24 : Size Go.Proofs.Try.prog 24 1 := by unfold Size; kernel_rfl
theorem wAll3_siz26 : Size Go.Proofs.Try.prog 26 2 := by unfold Size; kernel_rfl
theorem wAll3_siz28 : Size Go.Proofs.Try.prog 28 2 := by unfold Size; kernel_rfl
theorem wAll3_siz3 : Size Go.Proofs.Try.prog 3 1 := by unfold Size; kernel_rfl
theorem wAll3_siz33 : Size Go.Proofs.Try.prog 33 1 := by unfold Size; kernel_rfl
theorem wAll3_siz4 : Size Go.Proofs.Try.prog 4 1 := by unfold Size; kernel_rfl
def wAll3_z28 : D := .cons (.int .i64 0) (.cons (.int .i64 0) (.nil))
theorem wAll3_zch28 : ∀ (ok : Nat → Prop) (w : World), R Go.Proofs.Try.prog wAll3_z28 ok w (Value.cells (.agg #[(.int .i64 0), (.int .i64 0)])).toList := fun _ _ => z_int (z_int (z_nil))
theorem wAll3_zer28 : Zero Go.Proofs.Try.prog 28 (.agg #[(.int .i64 0), (.int .i64 0)]) := by unfold Zero; kernel_rfl
theorem wAll3_zer3 : Zero Go.Proofs.Try.prog 3 (.int .i64 0) := by unfold Zero; kernel_rfl
theorem wAll3_zer33 : Zero Go.Proofs.Try.prog 33 (.slice none 0 0) := by unfold Zero; kernel_rfl
theorem wAll3_zer4 : Zero Go.Proofs.Try.prog 4 (.bool false) := by unfold Zero; kernel_rfl

theorem onto1_spec (v : Int) :
    Spec Go.Proofs.Try.prog 63 [iv v] (D.bool (decide (v < 0))) := by
  refine spec_of' Go.Proofs.Try.func63 rfl Go.Proofs.Try.ntmps63 rfl ?_
  refine f_seq ?_
  refine f_region ?_
  refine scons (CStep.step (PStep.c (p_assign (y := .val _) rfl (Sees.of rfl) rfl)) rfl rfl rfl rfl) ?_
  refine snil ?_
  refine f_seq ?_
  refine f_region ?_
  refine scons (CStep.step (PStep.c (p_move (y := .val _) rfl (Sees.of rfl) rfl)) rfl rfl rfl rfl) ?_
  refine scons (CStep.step (PStep.c (p_lss rfl (Sees.of rfl) (Sees.of rfl))) rfl rfl rfl rfl) ?_
  refine scons (CStep.step (PStep.c (p_assign (y := .val _) rfl (Sees.of rfl) rfl)) rfl rfl rfl rfl) ?_
  refine snil ?_
  refine f_ret ?_
  refine ends_ret (res_eq (res1 rfl (res_tmp rfl (Sees.of rfl))) ?_)
  rfl

set_option maxHeartbeats 1000000 in
theorem Onto_spec (n : Int) (ls : List (List Int)) (vars : List Int) :
    Spec Go.Proofs.Try.prog 30 [.val (cnf n ls), .val (ints vars)] (two (boolss (Sp.onto n ls vars).1) (fault (Sp.onto n ls vars).2.1 (Sp.onto n ls vars).2.2)) := by
  refine spec_of' Go.Proofs.Try.func30 rfl Go.Proofs.Try.ntmps30 rfl ?_
  refine f_seq ?_
  refine f_wf (.tmp 1) rfl (fun hwf => ?_) (by simp)
  have hlen : vars.length ≤ 140737488355328 := hwf.1
  clear hwf
  refine f_region ?_
  refine scons (r_box (ob := 10002) rfl (Sees.of rfl) rfl rfl rfl rfl rfl rfl) ?_
  refine scons (r_box (ob := 10003) rfl (Sees.of rfl) rfl rfl rfl rfl rfl rfl) ?_
  refine scons (CStep.step (PStep.c (p_assign (y := .emp) rfl (Sees.of rfl) rfl)) rfl rfl rfl rfl) ?_
  refine scons (r_alloc (ob := 10005) rfl wAll3_zer28 rfl rfl rfl rfl rfl rfl) ?_
  refine snil ?_
  refine f_seq ?_
  refine f_seq ?_
  refine f_region ?_
  refine scons (CStep.step (PStep.c (p_loadBS rfl wAll3_agg26 wAll3_siz26 (Sees.of rfl) rfl rfl rfl)) rfl rfl rfl rfl) ?_
  refine scons (CStep.step (c_call rfl wAll3_isf58 ⟨_, _, rfl, (Sees.of rfl), rfl, rfl⟩ (allCheck_spec n ls)) rfl rfl rfl rfl) ?_
  refine scons (r_alloc (ob := 10006) rfl wAll3_zer28 rfl rfl rfl rfl rfl rfl) ?_
  refine scons (r_storeS rfl wAll3_siz28 rfl rfl rfl (Sees.of rfl) rfl (Sees.of rfl) rfl rfl rfl rfl) ?_
  refine snil ?_
  refine f_seq ?_
  refine f_region ?_
  refine scons (CStep.step (PStep.c (p_fieldRef rfl wAll3_fld28_0 wAll3_siz3 rfl (Sees.of rfl) rfl)) rfl rfl rfl rfl) ?_
  refine scons (CStep.step (PStep.c (p_loadB (y := .val _) rfl wAll3_agg3 (Sees.of rfl) rfl rfl rfl rfl)) rfl rfl rfl rfl) ?_
  refine scons (CStep.step (PStep.c (p_neq rfl (Sees.of rfl) (Sees.of rfl))) rfl rfl rfl rfl) ?_
  refine snil ?_
  refine f_cond rfl ?_ ?_
  · intro hc1
    try simp only [bs] at hc1
    refine f_seq ?_
    refine f_draw wAll3_mix (by kernel_rfl) ?_
    refine dcons (CStep.step (PStep.c (p_loadBS rfl wAll3_agg28 wAll3_siz28 (Sees.of rfl) rfl rfl rfl)) rfl rfl rfl rfl) ?_
    refine dcons (CStep.step (PStep.c (p_assign (y := .emp) rfl (Sees.of rfl) rfl)) rfl rfl rfl rfl) ?_
    refine dcons (r_storeS rfl wAll3_siz28 rfl rfl rfl (Sees.of rfl) rfl (Sees.of rfl) rfl rfl rfl rfl) ?_
    refine dnil (by kernel_rfl) ?_
    refine f_ret ?_
    refine ends_ret (res_eq (res2 rfl (res_tmp rfl (Sees.emp rfl 1 bools [])) (res_cell (by rfl) rfl rfl wAll3_agg28 wAll3_siz28 rfl rfl)) ?_)
    rw [Sp.onto, if_pos hc1]
    all_goals rfl
  · intro hc1
    try simp only [bs] at hc1
    obtain ⟨m, rfl⟩ : ∃ m : Nat, n = (m : Int) := ⟨n.toNat, by have := Sp.tryW_ok hc1; omega⟩
    have hko := Sp.tryW_ok hc1
    have hG := Sp.check_good hko.1 (m := m) rfl
    have hp16 := Sp.pow16 (n := m) (by omega)
    have hneg := Sp.idx_le (fun v => decide (v < 0)) vars
    refine f_skip ?_
    refine f_seq ?_
    refine f_seq ?_
    refine f_region ?_
    refine scons (CStep.step (PStep.c (p_loadB (y := .val _) rfl wAll3_agg22 (Sees.of rfl) rfl rfl rfl rfl)) rfl rfl rfl rfl) ?_
    refine scons (CStep.step (PStep.c (p_fieldRef rfl wAll3_fld26_0 wAll3_siz3 rfl (Sees.of rfl) rfl)) rfl rfl rfl rfl) ?_
    refine scons (CStep.step (PStep.c (p_loadB (y := .val _) rfl wAll3_agg3 (Sees.of rfl) rfl rfl rfl rfl)) rfl rfl rfl rfl) ?_
    refine scons (CStep.step (c_call rfl wAll3_isf61 ⟨_, _, rfl, (Sees.of rfl), rfl, ⟨_, _, rfl, (Sees.of rfl), rfl, rfl⟩⟩ (list_spec vars m (by omega))) rfl rfl rfl rfl) ?_
    refine scons (r_alloc (ob := 10007) rfl wAll3_zer28 rfl rfl rfl rfl rfl rfl) ?_
    refine scons (r_storeS rfl wAll3_siz28 rfl rfl rfl (Sees.of rfl) rfl (Sees.of rfl) rfl rfl rfl rfl) ?_
    refine snil ?_
    refine f_seq ?_
    refine f_region ?_
    refine scons (CStep.step (PStep.c (p_fieldRef rfl wAll3_fld28_0 wAll3_siz3 rfl (Sees.of rfl) rfl)) rfl rfl rfl rfl) ?_
    refine scons (CStep.step (PStep.c (p_loadB (y := .val _) rfl wAll3_agg3 (Sees.of rfl) rfl rfl rfl rfl)) rfl rfl rfl rfl) ?_
    refine scons (CStep.step (PStep.c (p_neq rfl (Sees.of rfl) (Sees.of rfl))) rfl rfl rfl rfl) ?_
    refine snil ?_
    refine f_cond rfl ?_ ?_
    · intro hc2
      try simp only [bs] at hc2
      refine f_seq ?_
      refine f_draw wAll3_mix (by kernel_rfl) ?_
      refine dcons (CStep.step (PStep.c (p_loadBS rfl wAll3_agg28 wAll3_siz28 (Sees.of rfl) rfl rfl rfl)) rfl rfl rfl rfl) ?_
      refine dcons (CStep.step (PStep.c (p_assign (y := .emp) rfl (Sees.of rfl) rfl)) rfl rfl rfl rfl) ?_
      refine dcons (r_storeS rfl wAll3_siz28 rfl rfl rfl (Sees.of rfl) rfl (Sees.of rfl) rfl rfl rfl rfl) ?_
      refine dnil (by kernel_rfl) ?_
      refine f_ret ?_
      refine ends_ret (res_eq (res2 rfl (res_tmp rfl (Sees.emp rfl 1 bools [])) (res_cell (by rfl) rfl rfl wAll3_agg28 wAll3_siz28 rfl rfl)) ?_)
      rw [Sp.onto, if_neg (fun h => h hc1), if_pos (by rw [Sp.varsW, if_pos hc2]; exact hc2), Sp.varsW, if_pos hc2]
      all_goals rfl
    · intro hc2
      try simp only [bs] at hc2
      refine f_skip ?_
      refine f_seq ?_
      refine f_seq ?_
      refine f_region ?_
      refine scons (CStep.step (PStep.c (p_loadB (y := .val _) rfl wAll3_agg22 (Sees.of rfl) rfl rfl rfl rfl)) rfl rfl rfl rfl) ?_
      refine scons (CStep.step (c_callS (q := false) rfl wAll3_isf62 (indexI_spec vars (fun v => decide (v < 0)) (fun _ => True) (fun _ _ => trivial)) (sa_cons (sh_of (Sees.of rfl) rfl) (sa_cons (sh_clo (Sees.of rfl) wAll3_isf63 (sl_nil) (fun _ => rfl) (fun _ => rfl) (fun v => onto1_spec v.1)) (sa_nil))) rfl) rfl rfl rfl rfl) ?_
      refine scons (CStep.step (PStep.c (p_assign (y := .val _) rfl (Sees.of rfl) rfl)) rfl rfl rfl rfl) ?_
      refine snil ?_
      refine f_seq ?_
      refine f_region ?_
      refine scons (CStep.step (PStep.c (p_move (y := .val _) rfl (Sees.of rfl) rfl)) rfl rfl rfl rfl) ?_
      refine scons (CStep.step (PStep.c (p_geq rfl (Sees.of rfl) (Sees.of rfl))) rfl rfl rfl rfl) ?_
      refine snil ?_
      refine f_cond rfl ?_ ?_
      · intro hc3
        try simp only [bs] at hc3
        refine f_seq ?_
        refine f_region ?_
        refine scons (CStep.step (PStep.c (p_move (y := .val _) rfl (Sees.of rfl) rfl)) rfl rfl rfl rfl) ?_
        refine scons (CStep.step (PStep.c (p_sub rfl (Sees.of rfl) (Sees.of rfl) (by omega))) rfl rfl rfl rfl) ?_
        refine scons (CStep.step (PStep.c (p_build rfl wAll3_plc28 wAll3_zer28 (by decide) wAll3_zch28 ⟨_, _, _, rfl, rfl, rfl, (Sees.of rfl), ⟨_, _, _, rfl, rfl, rfl, (Sees.of rfl), rfl⟩⟩ rfl)) rfl rfl rfl rfl) ?_
        refine scons (CStep.step (PStep.c (p_assign (y := .emp) rfl (Sees.of rfl) rfl)) rfl rfl rfl rfl) ?_
        refine scons (r_storeS rfl wAll3_siz28 rfl rfl rfl (Sees.of rfl) rfl (Sees.of rfl) rfl rfl rfl rfl) ?_
        refine snil ?_
        refine f_ret ?_
        refine ends_ret (res_eq (res2 rfl (res_tmp rfl (Sees.emp rfl 1 bools [])) (res_cell (by rfl) rfl rfl wAll3_agg28 wAll3_siz28 rfl rfl)) ?_)
        have e : Sp.varsW m vars = (3, -1 - Sp.neg0 vars) := by rw [Sp.varsW, if_neg (fun h => h hc2), if_pos (show 0 ≤ Sp.neg0 vars from hc3)]
        rw [Sp.onto, if_neg (fun h => h hc1), e, if_pos (by simp)]
        all_goals rfl
      · intro hc3
        try simp only [bs] at hc3
        have hvw : (Sp.varsW m vars).1 = 0 := by rw [Sp.varsW, if_neg (fun h => h hc2), if_neg (by unfold Sp.neg0; omega)]
        have hvo := Sp.vars_ok hvw
        have hpv := Sp.pow16 (n := vars.length) (by omega)
        have hpvw := Sp.pow_ok (m := vars.length) (by omega)
        have hpvn := Sp.pow_nat vars.length
        refine f_skip ?_
        refine f_seq ?_
        refine f_region ?_
        refine scons (CStep.step (PStep.c (p_loadB (y := .val _) rfl wAll3_agg22 (Sees.of rfl) rfl rfl rfl rfl)) rfl rfl rfl rfl) ?_
        refine scons (CStep.step (PStep.c (p_len rfl wAll3_isl22 (Sees.of rfl))) rfl rfl rfl rfl) ?_
        refine scons (CStep.step (PStep.c (p_shl rfl (Sees.of rfl) (Sees.of rfl) (by omega) (by omega) (by first | omega | assumption))) rfl rfl rfl rfl) ?_
        refine scons (r_make (m := 2 ^ vars.length) (f := D.bool) (z := false) (ob := 30001) rfl wAll3_isl33 wAll3_siz4 wAll3_byt4 wAll3_zer4 rfl rfl rfl (fun _ _ => rfl) (Sees.of (congrArg (fun q => AV.val (.int .i64 q)) hpvn)) (by omega) (by omega) rfl rfl rfl rfl rfl) ?_
        refine scons (r_alloc (ob := 10009) rfl wAll3_zer33 rfl rfl rfl rfl rfl rfl) ?_
        refine scons (r_storeR rfl wAll3_siz33 rfl rfl rfl (Sees.of rfl) rfl rfl (Sees.of rfl) rfl) ?_
        refine snil ?_
        refine f_seq ?_
        refine f_seq ?_
        refine f_region ?_
        refine scons (CStep.step (PStep.c (p_fieldRef rfl wAll3_fld26_1 wAll3_siz24 rfl (Sees.of rfl) rfl)) rfl rfl rfl rfl) ?_
        refine scons (CStep.step (PStep.c (p_loadB (y := .val _) rfl wAll3_agg24 (Sees.of rfl) rfl rfl rfl rfl)) rfl rfl rfl rfl) ?_
        refine scons (CStep.step (PStep.c (p_fieldRef rfl wAll3_fld26_0 wAll3_siz3 rfl (Sees.of rfl) rfl)) rfl rfl rfl rfl) ?_
        refine scons (CStep.step (PStep.c (p_loadB (y := .val _) rfl wAll3_agg3 (Sees.of rfl) rfl rfl rfl rfl)) rfl rfl rfl rfl) ?_
        refine scons (CStep.step (c_callA rfl wAll3_isf59 (each_spec m ls) (sa_cons (sh_of (Sees.of rfl) rfl) (sa_cons (sh_of (Sees.of rfl) rfl) (sa_nil))) rfl) rfl rfl rfl rfl) ?_
        refine snil ?_
        refine f_block ?_
        refine f_range [(46, .clo 88 (.ccons (.ptr (di m)) (.ccons (.ptr (intss ls)) .cnil))), (2, .ref 10002 0 0), (3, .ref 10003 0 0), (5, .ref 10005 0 0), (9, .ref 10009 0 0)] (fun k => [(10002, .box 0 (.ccons (iv m) (.ccons (.val (intss ls)) .cnil))), (10003, .box 0 (.ccons (.val (ints vars)) .cnil)), (10005, .box 0 (.ccons (iv 0) (.ccons (iv 0) .cnil))), (10009, .box 0 (.ccons (.row 30001 0) .cnil)), (30001, .arr 0 4 1 1 D.bool false (Sp.seenL m vars (Sp.modsTo m ls k)))]) (fun _ => none) (fun k => True) (fun k => True) (trivial) (fun _ _ _ h => h) rfl (each1_iter m (by omega) ls hG) wAll3_isf88 rfl (le_ofL ⟨rfl, rfl, rfl, rfl, rfl, rfl, rfl, rfl, rfl, (by show _ = AV.arr _ _ _ _ _ _ (Sp.seenL m vars []); rw [Sp.seenL_nil]; rfl), trivial⟩ rfl) rfl rfl (fun k hk hy => ⟨rfl, fun _ _ h => by cases h⟩) (fun _ => rfl) (fun k hk hy => by show _ = _; rw [Sp.modsTo_no hy]) ?_ ?_ ?_
        · intro k hk hy hI
          have hsl := Sp.seenL_len m vars (Sp.modsTo m ls k)
          have hbl := Sp.bits_length m k
          refine f_region ?_
          refine scons (CStep.step (PStep.c (p_assign (y := .val _) rfl (Sees.of rfl) rfl)) rfl rfl rfl rfl) ?_
          refine snil ?_
          refine f_nil ?_
          show AWs _ _ _ _ _
          refine f_block ?_
          refine f_seq ?_
          refine f_region ?_
          refine scons (CStep.step (PStep.c (p_assign (y := .val _) rfl (Sees.of rfl) rfl)) rfl rfl rfl rfl) ?_
          refine snil ?_
          refine f_seq ?_
          refine f_seq ?_
          refine f_region ?_
          refine scons (CStep.step (PStep.c (p_loadB (y := .val _) rfl wAll3_agg22 (Sees.of rfl) rfl rfl rfl rfl)) rfl rfl rfl rfl) ?_
          refine scons (CStep.step (PStep.c (p_len rfl wAll3_isl22 (Sees.of rfl))) rfl rfl rfl rfl) ?_
          refine scons (CStep.step (PStep.c (p_move (y := .val _) rfl (Sees.of rfl) rfl)) rfl rfl rfl rfl) ?_
          refine snil ?_
          refine f_block ?_
          refine f_loop (α := Nat) (fun j => j ≤ vars.length) (fun j => [(50, iv j), (48, .val (ints vars)), (49, iv vars.length), (11, iv (Sp.keyTo vars (Sp.bits m k) j)), (10, .val (bools (Sp.bits m k))), (46, .clo 88 (.ccons (.ptr (di m)) (.ccons (.ptr (intss ls)) .cnil))), (2, .ref 10002 0 0), (3, .ref 10003 0 0), (5, .ref 10005 0 0), (9, .ref 10009 0 0), (10002, .box 0 (.ccons (iv m) (.ccons (.val (intss ls)) .cnil))), (10003, .box 0 (.ccons (.val (ints vars)) .cnil)), (10005, .box 0 (.ccons (iv 0) (.ccons (iv 0) .cnil))), (10009, .box 0 (.ccons (.row 30001 0) .cnil)), (30001, .arr 0 4 1 1 D.bool false (Sp.seenL m vars (Sp.modsTo m ls k))), (29999, .clo 0 (anchor [(10002, .box 0 (.ccons (iv m) (.ccons (.val (intss ls)) .cnil))), (10003, .box 0 (.ccons (.val (ints vars)) .cnil)), (10005, .box 0 (.ccons (iv 0) (.ccons (iv 0) .cnil))), (10009, .box 0 (.ccons (.row 30001 0) .cnil)), (30001, .arr 0 4 1 1 D.bool false (Sp.seenL m vars (Sp.modsTo m ls k)))]))]) (fun j => vars.length - j) 0 ?_ ?_ ?_
          · exact Nat.zero_le _
          · exact le_ofL ⟨rfl, rfl, rfl, rfl, rfl, rfl, rfl, rfl, rfl, rfl, rfl, rfl, rfl, rfl, rfl, rfl, trivial⟩ rfl
          · rintro j hj
            have hj : j ≤ vars.length := hj
            have hkt := Sp.keyTo_lt vars (Sp.bits m k) j
            have hpj : 2 ^ j ≤ 2 ^ vars.length := Nat.pow_le_pow_right (by decide) hj
            refine f_seq ?_
            refine f_region ?_
            refine scons (CStep.step (PStep.c (p_lss rfl (Sees.of rfl) (Sees.of rfl))) rfl rfl rfl rfl) ?_
            refine snil ?_
            refine f_seq ?_
            refine f_cond rfl ?_ ?_
            · intro hc4
              try simp only [bs] at hc4
              refine f_skip ?_
              refine f_seq ?_
              refine f_block ?_
              refine f_seq ?_
              refine f_region ?_
              refine scons (CStep.step (PStep.c ((by first | exact p_indexN rfl wAll3_isl22 wAll3_siz3 (Sees.of rfl) (Sees.of rfl) (by omega) | exact p_index rfl wAll3_isl22 wAll3_siz3 (Sees.of rfl) (Sees.of rfl) (by omega) (by omega)))) rfl rfl rfl rfl) ?_
              refine scons (CStep.step (PStep.c (p_load rfl wAll3_agg3 (Sees.of rfl) rfl)) rfl rfl rfl rfl) ?_
              refine scons (CStep.step (PStep.c (p_assign (y := .val _) rfl (Sees.of rfl) rfl)) rfl rfl rfl rfl) ?_
              refine snil ?_
              refine f_seq ?_
              refine f_region ?_
              refine scons (CStep.step (PStep.c (p_move (y := .val _) rfl (Sees.of rfl) rfl)) rfl rfl rfl rfl) ?_
              refine scons (CStep.step (PStep.c (p_mul rfl (Sees.of rfl) (Sees.of rfl) (by omega))) rfl rfl rfl rfl) ?_
              refine scons (CStep.step (PStep.c (p_assign (y := .val _) rfl (Sees.of rfl) rfl)) rfl rfl rfl rfl) ?_
              refine snil ?_
              refine f_seq ?_
              have hvj := hvo.1 _ (Sp.getD_mem vars j 0 (by omega))
              refine f_region ?_
              refine scons (CStep.step (PStep.c (p_move (y := .val _) rfl (Sees.of rfl) rfl)) rfl rfl rfl rfl) ?_
              refine scons (CStep.step (PStep.c (p_move (y := .val _) rfl (Sees.of rfl) rfl)) rfl rfl rfl rfl) ?_
              refine scons (CStep.step (PStep.c (p_sub rfl (Sees.of rfl) (Sees.of rfl) (by omega))) rfl rfl rfl rfl) ?_
              refine scons (CStep.step (PStep.c ((by first | exact p_indexN rfl wAll3_isl33 wAll3_siz4 (Sees.of rfl) (Sees.of rfl) (by omega) | exact p_index rfl wAll3_isl33 wAll3_siz4 (Sees.of rfl) (Sees.of rfl) (by omega) (by omega)))) rfl rfl rfl rfl) ?_
              refine scons (CStep.step (PStep.c (p_load rfl wAll3_agg4 (Sees.of rfl) rfl)) rfl rfl rfl rfl) ?_
              refine snil ?_
              refine f_cond rfl ?_ ?_
              · intro hc5
                try simp only [bs] at hc5
                refine f_region ?_
                refine scons (CStep.step (PStep.c (p_move (y := .val _) rfl (Sees.of rfl) rfl)) rfl rfl rfl rfl) ?_
                refine scons (CStep.step (PStep.c (p_add rfl (Sees.of rfl) (Sees.of rfl) (by omega))) rfl rfl rfl rfl) ?_
                refine scons (CStep.step (PStep.c (p_assign (y := .val _) rfl (Sees.of rfl) rfl)) rfl rfl rfl rfl) ?_
                refine snil ?_
                refine f_nil ?_
                show AWs _ _ _ _ _
                refine f_region ?_
                refine scons (CStep.step (PStep.c (p_add rfl (Sees.of rfl) (Sees.of rfl) (by omega))) rfl rfl rfl rfl) ?_
                refine scons (CStep.step (PStep.c (p_move (y := .val _) rfl (Sees.of rfl) rfl)) rfl rfl rfl rfl) ?_
                refine snil ?_
                refine f_back ⟨j + 1, ?_, ?_, le_ofL ⟨rfl, rfl, rfl, (by rw [Sp.keyTo_yes hc5]; show AV.val (.int .i64 (((Sp.keyTo vars (Sp.bits m k) j) : Int) * 2 + 1)) = _; exact congrArg (fun q => AV.val (.int .i64 q)) (by omega)), rfl, rfl, rfl, rfl, rfl, rfl, rfl, rfl, rfl, rfl, rfl, rfl, trivial⟩ rfl⟩
                · omega
                · omega
              · intro hc5
                try simp only [bs] at hc5
                refine f_skip ?_
                refine f_nil ?_
                show AWs _ _ _ _ _
                refine f_region ?_
                refine scons (CStep.step (PStep.c (p_add rfl (Sees.of rfl) (Sees.of rfl) (by omega))) rfl rfl rfl rfl) ?_
                refine scons (CStep.step (PStep.c (p_move (y := .val _) rfl (Sees.of rfl) rfl)) rfl rfl rfl rfl) ?_
                refine snil ?_
                refine f_back ⟨j + 1, ?_, ?_, le_ofL ⟨rfl, rfl, rfl, (by rw [Sp.keyTo_no hc5]; show AV.val (.int .i64 (((Sp.keyTo vars (Sp.bits m k) j) : Int) * 2)) = _; exact congrArg (fun q => AV.val (.int .i64 q)) (by omega)), rfl, rfl, rfl, rfl, rfl, rfl, rfl, rfl, rfl, rfl, rfl, rfl, trivial⟩ rfl⟩
                · omega
                · omega
            · intro hc4
              try simp only [bs] at hc4
              refine f_exit ?_
              show AWs _ _ _ _ _
              obtain rfl : j = vars.length := by omega
              refine f_region ?_
              refine scons (CStep.step (PStep.c (p_loadB (y := .row _ _) rfl wAll3_agg33 (Sees.of rfl) rfl rfl rfl rfl)) rfl rfl rfl rfl) ?_
              refine scons (CStep.step (PStep.c (p_move (y := .val _) rfl (Sees.of rfl) rfl)) rfl rfl rfl rfl) ?_
              refine scons (CStep.step (PStep.c ((by first | exact p_indexR rfl wAll3_isl33 wAll3_siz4 (Sees.of rfl) rfl (Sees.of rfl) (by omega) | exact p_indexRZ rfl wAll3_isl33 wAll3_siz4 (Sees.of rfl) rfl (Sees.of rfl) (by omega) (by omega)))) rfl rfl rfl rfl) ?_
              refine scons (r_storeE rfl wAll3_siz4 rfl rfl rfl (Sees.of rfl) rfl (by omega) (Sees.of rfl) rfl) ?_
              refine snil ?_
              refine f_nil ?_
              show AWs _ _ _ _ _
              refine f_nil ?_
              exact ⟨trivial, rfl, rfl, rfl, rfl, rfl, (by rw [Sp.modsTo_yes hy, Sp.seenL_snoc]; rfl), trivial⟩
        · intro hI
          refine f_nil ?_
          show AWs _ _ _ _ _
          refine f_seq ?_
          refine f_region ?_
          refine scons (CStep.step (PStep.c (p_assign (y := .emp) rfl (Sees.of rfl) rfl)) rfl rfl rfl rfl) ?_
          refine snil ?_
          refine f_seq ?_
          refine f_seq ?_
          refine f_region ?_
          refine scons (CStep.step (PStep.c (p_loadB (y := .row _ _) rfl wAll3_agg33 (Sees.of rfl) rfl rfl rfl rfl)) rfl rfl rfl rfl) ?_
          refine scons (CStep.step (PStep.c (p_lenR rfl wAll3_isl33 (Sees.of rfl) rfl)) rfl rfl rfl rfl) ?_
          refine scons (CStep.step (PStep.c (p_move (y := .val _) rfl (Sees.of rfl) rfl)) rfl rfl rfl rfl) ?_
          refine snil ?_
          refine f_block ?_
          refine f_loop (α := Nat × Nat) (fun (i, u) => i ≤ 2 ^ vars.length) (fun (i, u) => [(69, iv i), (68, iv (2 ^ vars.length : Nat)), (67, .row 30001 0), (3, .ref 10003 0 0), (5, .ref 10005 0 0), (14, .row 20014 u), (20014, .arr u 33 1 24 bools [] (Sp.asg vars.length (Sp.trueTo (Sp.seenL m vars (Sp.modsTo m ls (2 ^ m))) i))), (10003, .box 0 (.ccons (.val (ints vars)) .cnil)), (10005, .box 0 (.ccons (iv 0) (.ccons (iv 0) .cnil))), (30001, .arr 0 4 1 1 D.bool false (Sp.seenL m vars (Sp.modsTo m ls (2 ^ m))))]) (fun (i, u) => 2 ^ vars.length - i) (0, 0) ?_ ?_ ?_
          · exact Nat.zero_le _
          · exact Le.trans (GLe.le (g_adopt (ob := 20014) (k := 14) 33 1 24 bools [] rfl rfl rfl rfl)) (le_ofL ⟨rfl, (by show AV.val (.int .i64 (((Sp.seenL m vars (Sp.modsTo m ls (2 ^ m))).length : Nat) : Int)) = _; rw [Sp.seenL_len]), rfl, rfl, rfl, rfl, rfl, rfl, rfl, rfl, trivial⟩ rfl)
          · rintro ⟨i, u⟩ hi
            have hi : i ≤ 2 ^ vars.length := hi
            have hsl := Sp.seenL_len m vars (Sp.modsTo m ls (2 ^ m))
            have htl := Sp.trueTo_len (Sp.seenL m vars (Sp.modsTo m ls (2 ^ m))) i
            refine f_seq ?_
            refine f_region ?_
            refine scons (CStep.step (PStep.c (p_lss rfl (Sees.of rfl) (Sees.of rfl))) rfl rfl rfl rfl) ?_
            refine snil ?_
            refine f_seq ?_
            refine f_cond rfl ?_ ?_
            · intro hc6
              try simp only [bs] at hc6
              refine f_skip ?_
              refine f_seq ?_
              refine f_block ?_
              refine f_seq ?_
              refine f_region ?_
              refine scons (CStep.step (PStep.c (p_move (y := .val _) rfl (Sees.of rfl) rfl)) rfl rfl rfl rfl) ?_
              refine scons (CStep.step (PStep.c ((by first | exact p_indexR rfl wAll3_isl33 wAll3_siz4 (Sees.of rfl) rfl (Sees.of rfl) (by omega) | exact p_indexRZ rfl wAll3_isl33 wAll3_siz4 (Sees.of rfl) rfl (Sees.of rfl) (by omega) (by omega)))) rfl rfl rfl rfl) ?_
              refine scons (CStep.step (PStep.c (p_loadE rfl wAll3_agg4 (Sees.of rfl) rfl (by omega) (fun _ => rfl))) rfl rfl rfl rfl) ?_
              refine scons (CStep.step (PStep.c (p_assign (y := .val _) rfl (Sees.of rfl) rfl)) rfl rfl rfl rfl) ?_
              refine scons (CStep.step (PStep.c (p_assign (y := .val _) rfl (Sees.of rfl) rfl)) rfl rfl rfl rfl) ?_
              refine snil ?_
              refine f_seq ?_
              refine f_region ?_
              refine scons (CStep.step (PStep.c (p_move (y := .val _) rfl (Sees.of rfl) rfl)) rfl rfl rfl rfl) ?_
              refine snil ?_
              refine f_cond rfl ?_ ?_
              · intro hc7
                try simp only [bs] at hc7
                refine f_region ?_
                refine scons (CStep.step (PStep.c (p_move (y := .row _ _) rfl (Sees.of rfl) rfl)) rfl rfl rfl rfl) ?_
                refine scons (CStep.step (PStep.c (p_loadB (y := .val _) rfl wAll3_agg22 (Sees.of rfl) rfl rfl rfl rfl)) rfl rfl rfl rfl) ?_
                refine scons (CStep.step (PStep.c (p_len rfl wAll3_isl22 (Sees.of rfl))) rfl rfl rfl rfl) ?_
                refine scons (CStep.step (PStep.c (p_move (y := .val _) rfl (Sees.of rfl) rfl)) rfl rfl rfl rfl) ?_
                refine scons (r_callS (q := false) (ob := 10079) false rfl wAll3_isf64 (assignment_spec vars.length i (by omega)) (sa_cons (sh_of (Sees.of rfl) rfl) (sa_cons (sh_of (Sees.of rfl) rfl) (sa_nil))) (.inl rfl) rfl rfl rfl rfl rfl) ?_
                refine scons (LStep.pre (g_freeze (k := 79) (o1 := 10079) rfl rfl rfl rfl) (CStep.step (c_buildSlice (f := bools) (za := []) (xs := [.tmp 79]) rfl rfl wAll3_isl49 wAll3_siz33 wAll3_zer33 rfl rfl ⟨_, _, rfl, (Sees.of rfl), rfl, rfl, rfl⟩) rfl rfl rfl rfl)) ?_
                refine scons (r_appendR (ob := 20014) rfl wAll3_isl49 wAll3_siz33 wAll3_byt33 wAll3_zer33 rfl rfl (Sees.of rfl) rfl (Sees.of rfl) (by simp only [Sp.asg_len, List.length_cons, List.length_nil]; omega) (by simp only [Sp.asg_len, List.length_cons, List.length_nil]; omega) rfl rfl rfl rfl rfl) ?_
                refine scons (CStep.step (PStep.c (p_assign (y := .row _ _) rfl (Sees.of rfl) rfl)) rfl rfl rfl rfl) ?_
                refine snil ?_
                refine f_nil ?_
                show AWs _ _ _ _ _
                refine f_region ?_
                refine scons (CStep.step (PStep.c (p_add rfl (Sees.of rfl) (Sees.of rfl) (by omega))) rfl rfl rfl rfl) ?_
                refine scons (CStep.step (PStep.c (p_move (y := .val _) rfl (Sees.of rfl) rfl)) rfl rfl rfl rfl) ?_
                refine snil ?_
                refine f_back ⟨(i + 1, u + 1), ?_, ?_, le_ofL ⟨rfl, rfl, rfl, rfl, rfl, rfl, (by rw [Sp.trueTo_yes hc7, Sp.asg_app]; rfl), rfl, rfl, rfl, trivial⟩ rfl⟩
                · show i + 1 ≤ 2 ^ vars.length
                  omega
                · show 2 ^ vars.length - (i + 1) < 2 ^ vars.length - i
                  omega
              · intro hc7
                try simp only [bs] at hc7
                refine f_skip ?_
                refine f_nil ?_
                show AWs _ _ _ _ _
                refine f_region ?_
                refine scons (CStep.step (PStep.c (p_add rfl (Sees.of rfl) (Sees.of rfl) (by omega))) rfl rfl rfl rfl) ?_
                refine scons (CStep.step (PStep.c (p_move (y := .val _) rfl (Sees.of rfl) rfl)) rfl rfl rfl rfl) ?_
                refine snil ?_
                refine f_back ⟨(i + 1, u), ?_, ?_, le_ofL ⟨rfl, rfl, rfl, rfl, rfl, rfl, (by rw [Sp.trueTo_no hc7]; rfl), rfl, rfl, rfl, trivial⟩ rfl⟩
                · show i + 1 ≤ 2 ^ vars.length
                  omega
                · show 2 ^ vars.length - (i + 1) < 2 ^ vars.length - i
                  omega
            · intro hc6
              try simp only [bs] at hc6
              refine f_exit ?_
              show AWs _ _ _ _ _
              refine f_seq ?_
              refine f_region ?_
              refine scons (CStep.step (PStep.c (p_move (y := .row _ _) rfl (Sees.of rfl) rfl)) rfl rfl rfl rfl) ?_
              refine scons (CStep.step (PStep.c (p_build rfl wAll3_plc28 wAll3_zer28 (by decide) wAll3_zch28 rfl rfl)) rfl rfl rfl rfl) ?_
              refine scons (CStep.step (PStep.c (p_assign (y := .row _ _) rfl (Sees.of rfl) rfl)) rfl rfl rfl rfl) ?_
              refine scons (r_storeS rfl wAll3_siz28 rfl rfl rfl (Sees.of rfl) rfl (Sees.of rfl) rfl rfl rfl rfl) ?_
              refine snil ?_
              refine f_ret ?_
              refine ends_ret (res_eq (res2 rfl (res_row rfl rfl rfl) (res_cell (by rfl) rfl rfl wAll3_agg28 wAll3_siz28 rfl rfl)) ?_)
              obtain rfl : i = 2 ^ vars.length := by omega
              rw [Sp.onto, if_neg (fun h => h hc1), if_neg (fun h => h hvw)]
              all_goals rfl
        · intro k id S _ _ _ h; cases h

theorem varsWrong_spec (n : Int) (ls : List (List Int)) (vars : List Int) (hck : (Sp.check n ls).1 = 0) :
    Spec Go.Proofs.Try.prog 31 [.val (cnf n ls), .val (ints vars)] (fault (Sp.varsW n vars).1 (Sp.varsW n vars).2) := by
  refine spec_of' Go.Proofs.Try.func31 rfl Go.Proofs.Try.ntmps31 rfl ?_
  refine f_seq ?_
  refine f_wf (.tmp 1) rfl (fun hwf => ?_) (by simp)
  have hlen : vars.length ≤ 140737488355328 := hwf.1
  clear hwf
  have hbe : Sp.beside n ls vars = Sp.listed n vars := by rw [Sp.beside, if_pos hck]
  refine f_region ?_
  refine scons (r_box (ob := 10002) rfl (Sees.of rfl) rfl rfl rfl rfl rfl rfl) ?_
  refine scons (r_alloc (ob := 10004) rfl wAll3_zer28 rfl rfl rfl rfl rfl rfl) ?_
  refine snil ?_
  refine f_seq ?_
  refine f_region ?_
  refine scons (CStep.step (PStep.c (p_loadBS rfl wAll3_agg26 wAll3_siz26 (Sees.of rfl) rfl rfl rfl)) rfl rfl rfl rfl) ?_
  refine scons (CStep.step (PStep.c (p_move (y := .val _) rfl (Sees.of rfl) rfl)) rfl rfl rfl rfl) ?_
  refine scons (CStep.step (c_call rfl wAll3_isf55 ⟨_, _, rfl, (Sees.of rfl), rfl, ⟨_, _, rfl, (Sees.of rfl), rfl, rfl⟩⟩ (beside_spec n ls vars)) rfl rfl rfl rfl) ?_
  refine scons (r_alloc (ob := 10005) rfl wAll3_zer28 rfl rfl rfl rfl rfl rfl) ?_
  refine scons (r_storeS rfl wAll3_siz28 rfl rfl rfl (Sees.of rfl) rfl (Sees.of rfl) rfl rfl rfl rfl) ?_
  refine snil ?_
  rw [hbe]
  refine f_seq ?_
  refine f_seq ?_
  refine f_region ?_
  refine scons (CStep.step (PStep.c (p_assign (y := .val _) rfl (Sees.of rfl) rfl)) rfl rfl rfl rfl) ?_
  refine snil ?_
  refine f_block ?_
  refine f_loop (α := Nat × Int × Int) (fun (i, c, a) => i ≤ vars.length ∧ (c = 0 → a = 0 ∧ (Sp.listed n vars).1 = 0 ∧ ∀ y ∈ vars.take i, decide (y < 0) = false) ∧ (c ≠ 0 → (c, a) = Sp.varsW n vars)) (fun (i, c, a) => [(6, iv i), (4, .ref 10004 0 0), (10004, .box 0 (.ccons (iv 0) (.ccons (iv 0) .cnil))), (5, .ref 10005 0 0), (10005, .box 0 (.ccons (iv c) (.ccons (iv a) .cnil))), (1, .val (ints vars))]) (fun (i, c, a) => vars.length - i) (0, (Sp.listed n vars).1, (Sp.listed n vars).2) ?_ ?_ ?_
  · refine ⟨Nat.zero_le _, fun h => ⟨congrArg Prod.snd (Sp.listed_zero h), h, by simp⟩, fun h => ?_⟩
    rw [Sp.varsW, if_pos h]
  · exact le_ofL ⟨rfl, rfl, rfl, rfl, rfl, rfl, trivial⟩ rfl
  · rintro ⟨i, c, a⟩ ⟨hi, hz, hnz⟩
    have hi : i ≤ vars.length := hi
    refine f_seq ?_
    refine f_seq ?_
    refine f_region ?_
    refine scons (CStep.step (PStep.c (p_move (y := .val _) rfl (Sees.of rfl) rfl)) rfl rfl rfl rfl) ?_
    refine scons (CStep.step (PStep.c (p_move (y := .val _) rfl (Sees.of rfl) rfl)) rfl rfl rfl rfl) ?_
    refine scons (CStep.step (PStep.c (p_len rfl wAll3_isl22 (Sees.of rfl))) rfl rfl rfl rfl) ?_
    refine scons (CStep.step (PStep.c (p_lss rfl (Sees.of rfl) (Sees.of rfl))) rfl rfl rfl rfl) ?_
    refine scons (CStep.step (PStep.c (p_move (y := .val _) rfl (Sees.of rfl) rfl)) rfl rfl rfl rfl) ?_
    refine scons (CStep.guard rfl rfl rfl (fun hg0 => PStep.c (p_fieldRef rfl wAll3_fld28_0 wAll3_siz3 rfl (Sees.of rfl) rfl)) rfl rfl rfl rfl rfl) ?_
    refine scons (CStep.guard rfl rfl rfl (fun hg0 => PStep.c (p_loadB (y := .val _) rfl wAll3_agg3 (Sees.gv' rfl hg0) rfl rfl rfl rfl)) rfl rfl rfl rfl rfl) ?_
    refine scons (CStep.guard rfl rfl rfl (fun hg0 => PStep.c (p_eql rfl (Sees.gv' rfl hg0) (Sees.of rfl))) rfl rfl rfl rfl rfl) ?_
    refine scons (CStep.step (PStep.c (p_and rfl (Sees.of rfl) (fun h => Sees.gv' rfl (beq_of_eq h)) (Sees.of rfl))) rfl rfl rfl rfl) ?_
    refine snil ?_
    refine f_cond rfl ?_ ?_
    · intro hc1
      try simp only [bs] at hc1
      refine f_skip ?_
      refine f_seq ?_
      refine f_block ?_
      refine f_seq ?_
      refine f_region ?_
      refine scons (CStep.step (PStep.c (p_move (y := .val _) rfl (Sees.of rfl) rfl)) rfl rfl rfl rfl) ?_
      refine scons (CStep.step (PStep.c (p_move (y := .val _) rfl (Sees.of rfl) rfl)) rfl rfl rfl rfl) ?_
      refine scons (CStep.step (PStep.c ((by first | exact p_indexN rfl wAll3_isl22 wAll3_siz3 (Sees.of rfl) (Sees.of rfl) (by omega) | exact p_index rfl wAll3_isl22 wAll3_siz3 (Sees.of rfl) (Sees.of rfl) (by omega) (by omega)))) rfl rfl rfl rfl) ?_
      refine scons (CStep.step (PStep.c (p_load rfl wAll3_agg3 (Sees.of rfl) rfl)) rfl rfl rfl rfl) ?_
      refine scons (CStep.step (PStep.c (p_lss rfl (Sees.of rfl) (Sees.of rfl))) rfl rfl rfl rfl) ?_
      refine snil ?_
      refine f_cond rfl ?_ ?_
      · intro hc2
        try simp only [bs] at hc2
        refine f_region ?_
        refine scons (CStep.step (PStep.c (p_move (y := .val _) rfl (Sees.of rfl) rfl)) rfl rfl rfl rfl) ?_
        refine scons (CStep.step (PStep.c (p_sub rfl (Sees.of rfl) (Sees.of rfl) (by omega))) rfl rfl rfl rfl) ?_
        refine scons (CStep.step (PStep.c (p_build rfl wAll3_plc28 wAll3_zer28 (by decide) wAll3_zch28 ⟨_, _, _, rfl, rfl, rfl, (Sees.of rfl), ⟨_, _, _, rfl, rfl, rfl, (Sees.of rfl), rfl⟩⟩ rfl)) rfl rfl rfl rfl) ?_
        refine scons (r_storeS rfl wAll3_siz28 rfl rfl rfl (Sees.of rfl) rfl (Sees.of rfl) rfl rfl rfl rfl) ?_
        refine snil ?_
        refine f_nil ?_
        show AWs _ _ _ _ _
        refine f_region ?_
        refine scons (CStep.step (PStep.c (p_move (y := .val _) rfl (Sees.of rfl) rfl)) rfl rfl rfl rfl) ?_
        refine scons (CStep.step (PStep.c (p_add rfl (Sees.of rfl) (Sees.of rfl) (by omega))) rfl rfl rfl rfl) ?_
        refine scons (CStep.step (PStep.c (p_assign (y := .val _) rfl (Sees.of rfl) rfl)) rfl rfl rfl rfl) ?_
        refine snil ?_
        refine f_back ⟨(i + 1, 3, -1 - (i : Int)), ?_, ?_, le_ofL ⟨rfl, rfl, rfl, rfl, rfl, rfl, trivial⟩ rfl⟩
        · obtain ⟨h1, h2, h3⟩ := hz hc1.2
          refine ⟨(by show i + 1 ≤ vars.length; omega), fun h => absurd h (by decide), fun _ => ?_⟩
          have e : Sp.neg0 vars = i := Sp.idx_at (z := 0) (by omega) h3 (by simpa using hc2)
          rw [Sp.varsW, if_neg (fun h => h h2), e, if_pos (by omega)]
        · show vars.length - (i + 1) < vars.length - i
          omega
      · intro hc2
        try simp only [bs] at hc2
        refine f_skip ?_
        refine f_nil ?_
        show AWs _ _ _ _ _
        refine f_region ?_
        refine scons (CStep.step (PStep.c (p_move (y := .val _) rfl (Sees.of rfl) rfl)) rfl rfl rfl rfl) ?_
        refine scons (CStep.step (PStep.c (p_add rfl (Sees.of rfl) (Sees.of rfl) (by omega))) rfl rfl rfl rfl) ?_
        refine scons (CStep.step (PStep.c (p_assign (y := .val _) rfl (Sees.of rfl) rfl)) rfl rfl rfl rfl) ?_
        refine snil ?_
        refine f_back ⟨(i + 1, c, a), ?_, ?_, le_ofL ⟨rfl, rfl, rfl, rfl, rfl, rfl, trivial⟩ rfl⟩
        · obtain ⟨h1, h2, h3⟩ := hz hc1.2
          refine ⟨(by show i + 1 ≤ vars.length; omega), fun _ => ⟨h1, h2, ?_⟩, fun h => absurd hc1.2 h⟩
          exact Sp.step_all (by omega) h3 (by simpa using hc2)
        · show vars.length - (i + 1) < vars.length - i
          omega
    · intro hc1
      try simp only [bs] at hc1
      refine f_exit ?_
      show AWs _ _ _ _ _
      refine f_seq ?_
      refine f_region ?_
      refine scons (CStep.step (PStep.c (p_loadBS rfl wAll3_agg28 wAll3_siz28 (Sees.of rfl) rfl rfl rfl)) rfl rfl rfl rfl) ?_
      refine scons (r_storeS rfl wAll3_siz28 rfl rfl rfl (Sees.of rfl) rfl (Sees.of rfl) rfl rfl rfl rfl) ?_
      refine snil ?_
      refine f_ret ?_
      refine ends_ret (res_eq (res1 rfl (res_cell (by rfl) rfl rfl wAll3_agg28 wAll3_siz28 rfl rfl)) ?_)
      by_cases hcz : c = 0
      · obtain ⟨h1, h2, h3⟩ := hz hcz
        have e : Sp.neg0 vars = -1 := Sp.idx_none (by rw [List.take_of_length_le (by omega)] at h3; exact h3)
        rw [Sp.varsW, if_neg (fun h => h h2), e, if_neg (by decide), hcz, h1]
        rfl
      · have e := hnz hcz
        rw [← e]
        rfl

set_option maxHeartbeats 1000000 in
theorem OntoR_spec (m : Nat) (ls : List (List Int)) (vars : List Int) (hm : m ≤ 16) (hG : ∀ l ∈ ls, Sp.Good m l) (hvw : (Sp.varsW m vars).1 = 0) :
    Spec Go.Proofs.Try.prog 32 [.val (cnf m ls), .val (ints vars)] (ints (Sp.ofN (Sp.proj m ls vars))) := by
  refine spec_of' Go.Proofs.Try.func32 rfl Go.Proofs.Try.ntmps32 rfl ?_
  refine f_seq ?_
  have hvo := Sp.vars_ok hvw
  have hpv := Sp.pow16 (n := vars.length) (by omega)
  have hpvw := Sp.pow_ok (m := vars.length) (by omega)
  have hpvn := Sp.pow_nat vars.length
  have hp16 := Sp.pow16 hm
  have hml := Sp.mods_len m ls
  have hol := Sp.ofN_len (Sp.mods m ls)
  refine f_region ?_
  refine scons (r_box (ob := 10002) rfl (Sees.of rfl) rfl rfl rfl rfl rfl rfl) ?_
  refine scons (CStep.step (PStep.c (p_assign (y := .emp) rfl (Sees.of rfl) rfl)) rfl rfl rfl rfl) ?_
  refine snil ?_
  refine f_seq ?_
  refine f_region ?_
  refine scons (CStep.step (PStep.c (p_move (y := .val _) rfl (Sees.of rfl) rfl)) rfl rfl rfl rfl) ?_
  refine scons (CStep.step (PStep.c (p_len rfl wAll3_isl22 (Sees.of rfl))) rfl rfl rfl rfl) ?_
  refine scons (CStep.step (PStep.c (p_convU rfl wAll3_int3 wAll3_int35 (Sees.of rfl) (by omega))) rfl rfl rfl rfl) ?_
  refine scons (CStep.step (PStep.c (p_shl rfl (Sees.of rfl) (Sees.of rfl) (by omega) (by omega) (by first | omega | assumption))) rfl rfl rfl rfl) ?_
  refine scons (r_make (m := 2 ^ vars.length) (f := D.bool) (z := false) (ob := 10017) rfl wAll3_isl33 wAll3_siz4 wAll3_byt4 wAll3_zer4 rfl rfl rfl (fun _ _ => rfl) (Sees.of (congrArg (fun q => AV.val (.int .i64 q)) hpvn)) (by omega) (by omega) rfl rfl rfl rfl rfl) ?_
  refine scons (CStep.step (PStep.c (p_assign (y := .row _ _) rfl (Sees.of rfl) rfl)) rfl rfl rfl rfl) ?_
  refine snil ?_
  refine f_seq ?_
  refine f_region ?_
  refine scons (CStep.step (PStep.c (p_loadBS rfl wAll3_agg26 wAll3_siz26 (Sees.of rfl) rfl rfl rfl)) rfl rfl rfl rfl) ?_
  refine scons (CStep.step (c_call rfl wAll3_isf27 ⟨_, _, rfl, (Sees.of rfl), rfl, rfl⟩ (ModelsR_spec m ls hm hG)) rfl rfl rfl rfl) ?_
  refine scons (CStep.step (PStep.c (p_assign (y := .val _) rfl (Sees.of rfl) rfl)) rfl rfl rfl rfl) ?_
  refine snil ?_
  refine f_seq ?_
  refine f_seq ?_
  refine f_region ?_
  refine scons (CStep.step (PStep.c (p_assign (y := .val _) rfl (Sees.of rfl) rfl)) rfl rfl rfl rfl) ?_
  refine snil ?_
  refine f_block ?_
  refine f_loop (α := Nat) (fun i => i ≤ (Sp.mods m ls).length) (fun i => [(7, iv i), (6, .val (ints (Sp.ofN (Sp.mods m ls)))), (5, .row 10017 0), (10017, .arr 0 4 1 1 D.bool false (Sp.seenL m vars ((Sp.mods m ls).take i))), (2, .ref 10002 0 0), (10002, .box 0 (.ccons (iv m) (.ccons (.val (intss ls)) .cnil))), (1, .val (ints vars))]) (fun i => (Sp.mods m ls).length - i) 0 ?_ ?_ ?_
  · exact Nat.zero_le _
  · exact le_ofL ⟨rfl, rfl, rfl, (by rw [List.take_zero, Sp.seenL_nil]; rfl), rfl, rfl, rfl, trivial⟩ rfl
  · rintro i hi
    have hi : i ≤ (Sp.mods m ls).length := hi
    have hsl := Sp.seenL_len m vars ((Sp.mods m ls).take i)
    have hbl := Sp.bits_length m ((Sp.ofN (Sp.mods m ls)).getD i 0)
    refine f_seq ?_
    refine f_seq ?_
    refine f_region ?_
    refine scons (CStep.step (PStep.c (p_move (y := .val _) rfl (Sees.of rfl) rfl)) rfl rfl rfl rfl) ?_
    refine scons (CStep.step (PStep.c (p_move (y := .val _) rfl (Sees.of rfl) rfl)) rfl rfl rfl rfl) ?_
    refine scons (CStep.step (PStep.c (p_len rfl wAll3_isl22 (Sees.of rfl))) rfl rfl rfl rfl) ?_
    refine scons (CStep.step (PStep.c (p_lss rfl (Sees.of rfl) (Sees.of rfl))) rfl rfl rfl rfl) ?_
    refine snil ?_
    refine f_cond rfl ?_ ?_
    · intro hc1
      try simp only [bs] at hc1
      refine f_skip ?_
      refine f_seq ?_
      refine f_block ?_
      refine f_seq ?_
      refine f_draw wAll3_mix (by kernel_rfl) ?_
      refine dcons (CStep.step (PStep.c (p_fieldRef rfl wAll3_fld26_0 wAll3_siz3 rfl (Sees.of rfl) rfl)) rfl rfl rfl rfl) ?_
      refine dcons (CStep.step (PStep.c (p_loadB (y := .val _) rfl wAll3_agg3 (Sees.of rfl) rfl rfl rfl rfl)) rfl rfl rfl rfl) ?_
      refine dcons (CStep.step (PStep.c (p_move (y := .val _) rfl (Sees.of rfl) rfl)) rfl rfl rfl rfl) ?_
      refine dcons (CStep.step (PStep.c (p_move (y := .val _) rfl (Sees.of rfl) rfl)) rfl rfl rfl rfl) ?_
      refine dcons (CStep.step (PStep.c ((by first | exact p_indexN rfl wAll3_isl22 wAll3_siz3 (Sees.of rfl) (Sees.of rfl) (by omega) | exact p_index rfl wAll3_isl22 wAll3_siz3 (Sees.of rfl) (Sees.of rfl) (by omega) (by omega)))) rfl rfl rfl rfl) ?_
      refine dcons (CStep.step (PStep.c (p_load rfl wAll3_agg3 (Sees.of rfl) rfl)) rfl rfl rfl rfl) ?_
      refine dcons (CStep.step (c_call rfl wAll3_isf18 ⟨_, _, rfl, (Sees.of rfl), rfl, ⟨_, _, rfl, (Sees.of rfl), rfl, rfl⟩⟩ ((bits_spec m ((Sp.ofN (Sp.mods m ls)).getD i 0) (by omega)).spec false)) rfl rfl rfl rfl) ?_
      refine dcons (CStep.step (PStep.c (p_assign (y := .val _) rfl (Sees.of rfl) rfl)) rfl rfl rfl rfl) ?_
      refine dnil (by kernel_rfl) ?_
      refine f_seq ?_
      refine f_region ?_
      refine scons (CStep.step (PStep.c (p_assign (y := .val _) rfl (Sees.of rfl) rfl)) rfl rfl rfl rfl) ?_
      refine snil ?_
      refine f_seq ?_
      refine f_seq ?_
      refine f_region ?_
      refine scons (CStep.step (PStep.c (p_assign (y := .val _) rfl (Sees.of rfl) rfl)) rfl rfl rfl rfl) ?_
      refine snil ?_
      refine f_block ?_
      refine f_loop (α := Nat) (fun j => j ≤ vars.length) (fun j => [(10, iv j), (9, iv (Sp.keyTo vars (Sp.bits m ((Sp.ofN (Sp.mods m ls)).getD i 0)) j)), (8, .val (bools (Sp.bits m ((Sp.ofN (Sp.mods m ls)).getD i 0)))), (7, iv i), (6, .val (ints (Sp.ofN (Sp.mods m ls)))), (5, .row 10017 0), (10017, .arr 0 4 1 1 D.bool false (Sp.seenL m vars ((Sp.mods m ls).take i))), (2, .ref 10002 0 0), (10002, .box 0 (.ccons (iv m) (.ccons (.val (intss ls)) .cnil))), (1, .val (ints vars))]) (fun j => vars.length - j) 0 ?_ ?_ ?_
      · exact Nat.zero_le _
      · exact le_ofL ⟨rfl, rfl, rfl, rfl, rfl, rfl, rfl, rfl, rfl, rfl, trivial⟩ rfl
      · rintro j hj
        have hj : j ≤ vars.length := hj
        have hkt := Sp.keyTo_lt vars (Sp.bits m ((Sp.ofN (Sp.mods m ls)).getD i 0)) j
        have hpj : 2 ^ j ≤ 2 ^ vars.length := Nat.pow_le_pow_right (by decide) hj
        refine f_seq ?_
        refine f_seq ?_
        refine f_region ?_
        refine scons (CStep.step (PStep.c (p_move (y := .val _) rfl (Sees.of rfl) rfl)) rfl rfl rfl rfl) ?_
        refine scons (CStep.step (PStep.c (p_move (y := .val _) rfl (Sees.of rfl) rfl)) rfl rfl rfl rfl) ?_
        refine scons (CStep.step (PStep.c (p_len rfl wAll3_isl22 (Sees.of rfl))) rfl rfl rfl rfl) ?_
        refine scons (CStep.step (PStep.c (p_lss rfl (Sees.of rfl) (Sees.of rfl))) rfl rfl rfl rfl) ?_
        refine snil ?_
        refine f_cond rfl ?_ ?_
        · intro hc2
          try simp only [bs] at hc2
          refine f_skip ?_
          refine f_seq ?_
          refine f_block ?_
          refine f_seq ?_
          refine f_region ?_
          refine scons (CStep.step (PStep.c (p_move (y := .val _) rfl (Sees.of rfl) rfl)) rfl rfl rfl rfl) ?_
          refine scons (CStep.step (PStep.c (p_mul rfl (Sees.of rfl) (Sees.of rfl) (by omega))) rfl rfl rfl rfl) ?_
          refine scons (CStep.step (PStep.c (p_assign (y := .val _) rfl (Sees.of rfl) rfl)) rfl rfl rfl rfl) ?_
          refine snil ?_
          refine f_seq ?_
          have hvj := hvo.1 _ (Sp.getD_mem vars j 0 (by omega))
          refine f_region ?_
          refine scons (CStep.step (PStep.c (p_move (y := .val _) rfl (Sees.of rfl) rfl)) rfl rfl rfl rfl) ?_
          refine scons (CStep.step (PStep.c (p_move (y := .val _) rfl (Sees.of rfl) rfl)) rfl rfl rfl rfl) ?_
          refine scons (CStep.step (PStep.c (p_move (y := .val _) rfl (Sees.of rfl) rfl)) rfl rfl rfl rfl) ?_
          refine scons (CStep.step (PStep.c ((by first | exact p_indexN rfl wAll3_isl22 wAll3_siz3 (Sees.of rfl) (Sees.of rfl) (by omega) | exact p_index rfl wAll3_isl22 wAll3_siz3 (Sees.of rfl) (Sees.of rfl) (by omega) (by omega)))) rfl rfl rfl rfl) ?_
          refine scons (CStep.step (PStep.c (p_load rfl wAll3_agg3 (Sees.of rfl) rfl)) rfl rfl rfl rfl) ?_
          refine scons (CStep.step (PStep.c (p_sub rfl (Sees.of rfl) (Sees.of rfl) (by omega))) rfl rfl rfl rfl) ?_
          refine scons (CStep.step (PStep.c ((by first | exact p_indexN rfl wAll3_isl33 wAll3_siz4 (Sees.of rfl) (Sees.of rfl) (by omega) | exact p_index rfl wAll3_isl33 wAll3_siz4 (Sees.of rfl) (Sees.of rfl) (by omega) (by omega)))) rfl rfl rfl rfl) ?_
          refine scons (CStep.step (PStep.c (p_load rfl wAll3_agg4 (Sees.of rfl) rfl)) rfl rfl rfl rfl) ?_
          refine snil ?_
          refine f_cond rfl ?_ ?_
          · intro hc3
            try simp only [bs] at hc3
            refine f_region ?_
            refine scons (CStep.step (PStep.c (p_move (y := .val _) rfl (Sees.of rfl) rfl)) rfl rfl rfl rfl) ?_
            refine scons (CStep.step (PStep.c (p_add rfl (Sees.of rfl) (Sees.of rfl) (by omega))) rfl rfl rfl rfl) ?_
            refine scons (CStep.step (PStep.c (p_assign (y := .val _) rfl (Sees.of rfl) rfl)) rfl rfl rfl rfl) ?_
            refine snil ?_
            refine f_nil ?_
            show AWs _ _ _ _ _
            refine f_region ?_
            refine scons (CStep.step (PStep.c (p_move (y := .val _) rfl (Sees.of rfl) rfl)) rfl rfl rfl rfl) ?_
            refine scons (CStep.step (PStep.c (p_add rfl (Sees.of rfl) (Sees.of rfl) (by omega))) rfl rfl rfl rfl) ?_
            refine scons (CStep.step (PStep.c (p_assign (y := .val _) rfl (Sees.of rfl) rfl)) rfl rfl rfl rfl) ?_
            refine snil ?_
            refine f_back ⟨j + 1, ?_, ?_, le_ofL ⟨rfl, (by rw [Sp.keyTo_yes hc3]; show AV.val (.int .i64 (2 * ((Sp.keyTo vars (Sp.bits m ((Sp.ofN (Sp.mods m ls)).getD i 0)) j) : Int) + 1)) = _; exact congrArg (fun q => AV.val (.int .i64 q)) (by omega)), rfl, rfl, rfl, rfl, rfl, rfl, rfl, rfl, trivial⟩ rfl⟩
            · omega
            · omega
          · intro hc3
            try simp only [bs] at hc3
            refine f_skip ?_
            refine f_nil ?_
            show AWs _ _ _ _ _
            refine f_region ?_
            refine scons (CStep.step (PStep.c (p_move (y := .val _) rfl (Sees.of rfl) rfl)) rfl rfl rfl rfl) ?_
            refine scons (CStep.step (PStep.c (p_add rfl (Sees.of rfl) (Sees.of rfl) (by omega))) rfl rfl rfl rfl) ?_
            refine scons (CStep.step (PStep.c (p_assign (y := .val _) rfl (Sees.of rfl) rfl)) rfl rfl rfl rfl) ?_
            refine snil ?_
            refine f_back ⟨j + 1, ?_, ?_, le_ofL ⟨rfl, (by rw [Sp.keyTo_no hc3]; show AV.val (.int .i64 (2 * ((Sp.keyTo vars (Sp.bits m ((Sp.ofN (Sp.mods m ls)).getD i 0)) j) : Int))) = _; exact congrArg (fun q => AV.val (.int .i64 q)) (by omega)), rfl, rfl, rfl, rfl, rfl, rfl, rfl, rfl, trivial⟩ rfl⟩
            · omega
            · omega
        · intro hc2
          try simp only [bs] at hc2
          refine f_exit ?_
          show AWs _ _ _ _ _
          obtain rfl : j = vars.length := by omega
          refine f_region ?_
          refine scons (CStep.step (PStep.c (p_move (y := .row _ _) rfl (Sees.of rfl) rfl)) rfl rfl rfl rfl) ?_
          refine scons (CStep.step (PStep.c (p_move (y := .val _) rfl (Sees.of rfl) rfl)) rfl rfl rfl rfl) ?_
          refine scons (CStep.step (PStep.c ((by first | exact p_indexR rfl wAll3_isl33 wAll3_siz4 (Sees.of rfl) rfl (Sees.of rfl) (by omega) | exact p_indexRZ rfl wAll3_isl33 wAll3_siz4 (Sees.of rfl) rfl (Sees.of rfl) (by omega) (by omega)))) rfl rfl rfl rfl) ?_
          refine scons (r_storeE rfl wAll3_siz4 rfl rfl rfl (Sees.of rfl) rfl (by omega) (Sees.of rfl) rfl) ?_
          refine snil ?_
          refine f_nil ?_
          show AWs _ _ _ _ _
          refine f_region ?_
          refine scons (CStep.step (PStep.c (p_move (y := .val _) rfl (Sees.of rfl) rfl)) rfl rfl rfl rfl) ?_
          refine scons (CStep.step (PStep.c (p_add rfl (Sees.of rfl) (Sees.of rfl) (by omega))) rfl rfl rfl rfl) ?_
          refine scons (CStep.step (PStep.c (p_assign (y := .val _) rfl (Sees.of rfl) rfl)) rfl rfl rfl rfl) ?_
          refine snil ?_
          refine f_back ⟨i + 1, ?_, ?_, le_ofL ⟨rfl, rfl, rfl, (by rw [Sp.seen_step (by omega)]; rfl), rfl, rfl, rfl, trivial⟩ rfl⟩
          · omega
          · omega
    · intro hc1
      try simp only [bs] at hc1
      refine f_exit ?_
      show AWs _ _ _ _ _
      refine f_seq ?_
      refine f_region ?_
      refine scons (CStep.step (PStep.c (p_assign (y := .emp) rfl (Sees.of rfl) rfl)) rfl rfl rfl rfl) ?_
      refine snil ?_
      refine f_seq ?_
      refine f_seq ?_
      refine f_region ?_
      refine scons (CStep.step (PStep.c (p_assign (y := .val _) rfl (Sees.of rfl) rfl)) rfl rfl rfl rfl) ?_
      refine snil ?_
      refine f_block ?_
      refine f_loop (α := Nat × Nat) (fun (t, u) => t ≤ 2 ^ vars.length) (fun (t, u) => [(12, iv t), (5, .row 10017 0), (10017, .arr 0 4 1 1 D.bool false (Sp.seenL m vars ((Sp.mods m ls).take i))), (11, .row 20011 u), (20011, .arr u 3 1 8 di 0 (Sp.ofN (Sp.trueTo (Sp.seenL m vars ((Sp.mods m ls).take i)) t)))]) (fun (t, u) => 2 ^ vars.length - t) (0, 0) ?_ ?_ ?_
      · exact Nat.zero_le _
      · exact Le.trans (GLe.le (g_adopt (ob := 20011) (k := 11) 3 1 8 di 0 rfl rfl rfl rfl)) (le_ofL ⟨rfl, rfl, rfl, rfl, rfl, trivial⟩ rfl)
      · rintro ⟨t, u⟩ ht
        have ht : t ≤ 2 ^ vars.length := ht
        have htl := Sp.trueTo_len (Sp.seenL m vars ((Sp.mods m ls).take i)) t
        have hol2 := Sp.ofN_len (Sp.trueTo (Sp.seenL m vars ((Sp.mods m ls).take i)) t)
        refine f_seq ?_
        refine f_seq ?_
        refine f_region ?_
        refine scons (CStep.step (PStep.c (p_move (y := .val _) rfl (Sees.of rfl) rfl)) rfl rfl rfl rfl) ?_
        refine scons (CStep.step (PStep.c (p_move (y := .row _ _) rfl (Sees.of rfl) rfl)) rfl rfl rfl rfl) ?_
        refine scons (CStep.step (PStep.c (p_lenR rfl wAll3_isl33 (Sees.of rfl) rfl)) rfl rfl rfl rfl) ?_
        refine scons (CStep.step (PStep.c (p_lss rfl (Sees.of rfl) (Sees.of rfl))) rfl rfl rfl rfl) ?_
        refine snil ?_
        refine f_cond rfl ?_ ?_
        · intro hc4
          try simp only [bs] at hc4
          refine f_skip ?_
          refine f_seq ?_
          refine f_block ?_
          refine f_seq ?_
          refine f_region ?_
          refine scons (CStep.step (PStep.c (p_move (y := .row _ _) rfl (Sees.of rfl) rfl)) rfl rfl rfl rfl) ?_
          refine scons (CStep.step (PStep.c (p_move (y := .val _) rfl (Sees.of rfl) rfl)) rfl rfl rfl rfl) ?_
          refine scons (CStep.step (PStep.c ((by first | exact p_indexR rfl wAll3_isl33 wAll3_siz4 (Sees.of rfl) rfl (Sees.of rfl) (by omega) | exact p_indexRZ rfl wAll3_isl33 wAll3_siz4 (Sees.of rfl) rfl (Sees.of rfl) (by omega) (by omega)))) rfl rfl rfl rfl) ?_
          refine scons (CStep.step (PStep.c (p_loadE rfl wAll3_agg4 (Sees.of rfl) rfl (by omega) (fun _ => rfl))) rfl rfl rfl rfl) ?_
          refine snil ?_
          refine f_cond rfl ?_ ?_
          · intro hc5
            try simp only [bs] at hc5
            refine f_region ?_
            refine scons (CStep.step (PStep.c (p_move (y := .row _ _) rfl (Sees.of rfl) rfl)) rfl rfl rfl rfl) ?_
            refine scons (CStep.step (PStep.c (p_move (y := .val _) rfl (Sees.of rfl) rfl)) rfl rfl rfl rfl) ?_
            refine scons (CStep.step (c_buildSlice (f := di) (za := 0) (xs := [.tmp 65]) rfl rfl wAll3_isl22 wAll3_siz3 wAll3_zer3 rfl rfl ⟨_, _, rfl, (Sees.of rfl), rfl, rfl, rfl⟩) rfl rfl rfl rfl) ?_
            refine scons (r_appendR (ob := 20011) rfl wAll3_isl22 wAll3_siz3 wAll3_byt3 wAll3_zer3 rfl rfl (Sees.of rfl) rfl (Sees.of rfl) (by simp only [hol2, List.length_cons, List.length_nil]; omega) (by simp only [hol2, List.length_cons, List.length_nil]; omega) rfl rfl rfl rfl rfl) ?_
            refine scons (CStep.step (PStep.c (p_assign (y := .row _ _) rfl (Sees.of rfl) rfl)) rfl rfl rfl rfl) ?_
            refine snil ?_
            refine f_nil ?_
            show AWs _ _ _ _ _
            refine f_region ?_
            refine scons (CStep.step (PStep.c (p_move (y := .val _) rfl (Sees.of rfl) rfl)) rfl rfl rfl rfl) ?_
            refine scons (CStep.step (PStep.c (p_add rfl (Sees.of rfl) (Sees.of rfl) (by omega))) rfl rfl rfl rfl) ?_
            refine scons (CStep.step (PStep.c (p_assign (y := .val _) rfl (Sees.of rfl) rfl)) rfl rfl rfl rfl) ?_
            refine snil ?_
            refine f_back ⟨(t + 1, u + 1), ?_, ?_, le_ofL ⟨rfl, rfl, rfl, rfl, (by rw [Sp.trueTo_yes hc5, Sp.ofN_app]; rfl), trivial⟩ rfl⟩
            · show t + 1 ≤ 2 ^ vars.length
              omega
            · show 2 ^ vars.length - (t + 1) < 2 ^ vars.length - t
              omega
          · intro hc5
            try simp only [bs] at hc5
            refine f_skip ?_
            refine f_nil ?_
            show AWs _ _ _ _ _
            refine f_region ?_
            refine scons (CStep.step (PStep.c (p_move (y := .val _) rfl (Sees.of rfl) rfl)) rfl rfl rfl rfl) ?_
            refine scons (CStep.step (PStep.c (p_add rfl (Sees.of rfl) (Sees.of rfl) (by omega))) rfl rfl rfl rfl) ?_
            refine scons (CStep.step (PStep.c (p_assign (y := .val _) rfl (Sees.of rfl) rfl)) rfl rfl rfl rfl) ?_
            refine snil ?_
            refine f_back ⟨(t + 1, u), ?_, ?_, le_ofL ⟨rfl, rfl, rfl, rfl, (by rw [Sp.trueTo_no hc5]; rfl), trivial⟩ rfl⟩
            · show t + 1 ≤ 2 ^ vars.length
              omega
            · show 2 ^ vars.length - (t + 1) < 2 ^ vars.length - t
              omega
        · intro hc4
          try simp only [bs] at hc4
          refine f_exit ?_
          show AWs _ _ _ _ _
          refine f_seq ?_
          refine f_region ?_
          refine scons (CStep.step (PStep.c (p_move (y := .row _ _) rfl (Sees.of rfl) rfl)) rfl rfl rfl rfl) ?_
          refine scons (CStep.step (PStep.c (p_assign (y := .row _ _) rfl (Sees.of rfl) rfl)) rfl rfl rfl rfl) ?_
          refine snil ?_
          refine f_ret ?_
          refine ends_ret (res_eq (res1 rfl (res_row rfl rfl rfl)) ?_)
          obtain rfl : t = 2 ^ vars.length := by omega
          rw [List.take_of_length_le (by omega)]
          all_goals rfl

set_option maxHeartbeats 1000000 in
theorem AllOntos_spec (n : Int) (ls : List (List Int)) (vars : List Int) :
    Spec Go.Proofs.Try.prog 7 [.val (cnf n ls), .val (ints vars)] (D.bool true) := by
  refine spec_of' Go.Proofs.Try.func7 rfl Go.Proofs.Try.ntmps7 rfl ?_
  refine f_seq ?_
  refine f_region ?_
  refine scons (r_box (ob := 10002) rfl (Sees.of rfl) rfl rfl rfl rfl rfl rfl) ?_
  refine scons (CStep.step (PStep.c (p_assign (y := .val _) rfl (Sees.of rfl) rfl)) rfl rfl rfl rfl) ?_
  refine snil ?_
  refine f_seq ?_
  refine f_seq ?_
  refine f_region ?_
  refine scons (CStep.step (PStep.c (p_loadBS rfl wAll3_agg26 wAll3_siz26 (Sees.of rfl) rfl rfl rfl)) rfl rfl rfl rfl) ?_
  refine scons (CStep.step (c_call rfl wAll3_isf23 ⟨_, _, rfl, (Sees.of rfl), rfl, rfl⟩ (tooMany_spec n ls)) rfl rfl rfl rfl) ?_
  refine snil ?_
  refine f_cond rfl ?_ ?_
  · intro hc1
    try simp only [bs] at hc1
    refine f_seq ?_
    refine f_region ?_
    refine scons (CStep.step (PStep.c (p_assign (y := .val _) rfl (Sees.of rfl) rfl)) rfl rfl rfl rfl) ?_
    refine snil ?_
    refine f_ret ?_
    refine ends_ret (res_eq (res1 rfl (res_tmp rfl (Sees.of rfl))) ?_)
    rfl
  · intro hc1
    try simp only [bs] at hc1
    refine f_skip ?_
    refine f_seq ?_
    refine f_region ?_
    refine scons (CStep.step (PStep.c (p_loadBS rfl wAll3_agg26 wAll3_siz26 (Sees.of rfl) rfl rfl rfl)) rfl rfl rfl rfl) ?_
    refine scons (CStep.step (PStep.c (p_move (y := .val _) rfl (Sees.of rfl) rfl)) rfl rfl rfl rfl) ?_
    refine scons (CStep.step (c_call rfl wAll3_isf30 ⟨_, _, rfl, (Sees.of rfl), rfl, ⟨_, _, rfl, (Sees.of rfl), rfl, rfl⟩⟩ (Onto_spec n ls vars)) rfl rfl rfl rfl) ?_
    refine scons (CStep.step (PStep.c (p_move (y := .val _) rfl (Sees.of rfl) rfl)) rfl rfl rfl rfl) ?_
    refine scons (CStep.step (PStep.c (p_extract rfl (Sees.of rfl) rfl)) rfl rfl rfl rfl) ?_
    refine scons (CStep.step (PStep.c (p_extract rfl (Sees.of rfl) rfl)) rfl rfl rfl rfl) ?_
    refine scons (r_alloc (ob := 10006) rfl wAll3_zer28 rfl rfl rfl rfl rfl rfl) ?_
    refine scons (CStep.step (PStep.c (p_assign (y := .val _) rfl (Sees.of rfl) rfl)) rfl rfl rfl rfl) ?_
    refine scons (r_storeS rfl wAll3_siz28 rfl rfl rfl (Sees.of rfl) rfl (Sees.of rfl) rfl rfl rfl rfl) ?_
    refine snil ?_
    refine f_seq ?_
    refine f_region ?_
    refine scons (CStep.step (PStep.c (p_loadBS rfl wAll3_agg26 wAll3_siz26 (Sees.of rfl) rfl rfl rfl)) rfl rfl rfl rfl) ?_
    refine scons (CStep.step (c_call rfl wAll3_isf25 ⟨_, _, rfl, (Sees.of rfl), rfl, rfl⟩ (tryWrong_spec n ls)) rfl rfl rfl rfl) ?_
    refine scons (r_alloc (ob := 10007) rfl wAll3_zer28 rfl rfl rfl rfl rfl rfl) ?_
    refine scons (r_storeS rfl wAll3_siz28 rfl rfl rfl (Sees.of rfl) rfl (Sees.of rfl) rfl rfl rfl rfl) ?_
    refine snil ?_
    refine f_seq ?_
    refine f_seq ?_
    refine f_region ?_
    refine scons (CStep.step (PStep.c (p_fieldRef rfl wAll3_fld28_0 wAll3_siz3 rfl (Sees.of rfl) rfl)) rfl rfl rfl rfl) ?_
    refine scons (CStep.step (PStep.c (p_loadB (y := .val _) rfl wAll3_agg3 (Sees.of rfl) rfl rfl rfl rfl)) rfl rfl rfl rfl) ?_
    refine scons (CStep.step (PStep.c (p_eql rfl (Sees.of rfl) (Sees.of rfl))) rfl rfl rfl rfl) ?_
    refine snil ?_
    refine f_cond rfl ?_ ?_
    · intro hc2
      try simp only [bs] at hc2
      obtain ⟨m, rfl⟩ : ∃ m : Nat, n = (m : Int) := ⟨n.toNat, by have := Sp.tryW_ok hc2; omega⟩
      have hko := Sp.tryW_ok hc2
      have hG := Sp.check_good hko.1 (m := m) rfl
      have hp16 := Sp.pow16 (n := m) (by omega)
      refine f_region ?_
      refine scons (CStep.step (PStep.c (p_loadBS rfl wAll3_agg26 wAll3_siz26 (Sees.of rfl) rfl rfl rfl)) rfl rfl rfl rfl) ?_
      refine scons (CStep.step (PStep.c (p_move (y := .val _) rfl (Sees.of rfl) rfl)) rfl rfl rfl rfl) ?_
      refine scons (CStep.step (c_call rfl wAll3_isf31 ⟨_, _, rfl, (Sees.of rfl), rfl, ⟨_, _, rfl, (Sees.of rfl), rfl, rfl⟩⟩ (varsWrong_spec m ls vars hko.1)) rfl rfl rfl rfl) ?_
      refine scons (r_storeS rfl wAll3_siz28 rfl rfl rfl (Sees.of rfl) rfl (Sees.of rfl) rfl rfl rfl rfl) ?_
      refine snil ?_
      refine f_seq ?_
      refine f_seq ?_
      refine f_region ?_
      refine scons (CStep.step (PStep.c (p_fieldRef rfl wAll3_fld28_0 wAll3_siz3 rfl (Sees.of rfl) rfl)) rfl rfl rfl rfl) ?_
      refine scons (CStep.step (PStep.c (p_loadB (y := .val _) rfl wAll3_agg3 (Sees.of rfl) rfl rfl rfl rfl)) rfl rfl rfl rfl) ?_
      refine scons (CStep.step (PStep.c (p_neq rfl (Sees.of rfl) (Sees.of rfl))) rfl rfl rfl rfl) ?_
      refine snil ?_
      refine f_cond rfl ?_ ?_
      · intro hc3
        try simp only [bs] at hc3
        refine f_seq ?_
        refine f_region ?_
        refine scons (CStep.step (PStep.c (p_loadBS rfl wAll3_agg28 wAll3_siz28 (Sees.of rfl) rfl rfl rfl)) rfl rfl rfl rfl) ?_
        refine scons (CStep.step (PStep.c (p_loadBS rfl wAll3_agg28 wAll3_siz28 (Sees.of rfl) rfl rfl rfl)) rfl rfl rfl rfl) ?_
        refine scons (CStep.step (PStep.c (p_eqlS2 rfl wAll3_eq228 (Sees.of rfl) (Sees.of rfl))) rfl rfl rfl rfl) ?_
        refine scons (CStep.step (PStep.c (p_move (y := .val _) rfl (Sees.of rfl) rfl)) rfl rfl rfl rfl) ?_
        refine scons (CStep.guard rfl rfl rfl (fun hg0 => PStep.c (p_move (y := .val _) rfl (Sees.of rfl) rfl)) rfl rfl rfl rfl rfl) ?_
        refine scons (CStep.guard rfl rfl rfl (fun hg0 => PStep.c (p_len rfl wAll3_isl49 (Sees.gv' rfl hg0))) rfl rfl rfl rfl rfl) ?_
        refine scons (CStep.guard rfl rfl rfl (fun hg0 => PStep.c (p_eql rfl (Sees.gv' rfl hg0) (Sees.of rfl))) rfl rfl rfl rfl rfl) ?_
        refine scons (CStep.step (PStep.c (p_and rfl (Sees.of rfl) (fun h => Sees.gv' rfl (beq_of_eq h)) (Sees.of rfl))) rfl rfl rfl rfl) ?_
        refine scons (CStep.step (PStep.c (p_assign (y := .val _) rfl (Sees.of rfl) rfl)) rfl rfl rfl rfl) ?_
        refine snil ?_
        refine f_ret ?_
        refine ends_ret (res_eq (res1 rfl (res_tmp rfl (Sees.of rfl))) ?_)
        rw [show Sp.onto m ls vars = ([], Sp.varsW m vars) by rw [Sp.onto, if_neg (fun h => h hc2), if_pos hc3]]
        simp
      · intro hc3
        try simp only [bs] at hc3
        refine f_skip ?_
        refine f_seq ?_
        have hvo := Sp.vars_ok hc3
        refine f_region ?_
        refine scons (CStep.step (c_call rfl wAll3_isf26 rfl (pair_spec)) rfl rfl rfl rfl) ?_
        refine scons (CStep.step (c_call rfl wAll3_isf24 ⟨_, _, rfl, (Sees.of rfl), rfl, rfl⟩ (Count_spec 2 [[1, 2], [-1]])) rfl rfl rfl rfl) ?_
        refine scons (CStep.step (PStep.c (p_move (y := .val _) rfl (Sees.of rfl) rfl)) rfl rfl rfl rfl) ?_
        refine scons (CStep.step (PStep.c (p_extract rfl (Sees.of rfl) rfl)) rfl rfl rfl rfl) ?_
        refine scons (CStep.step (PStep.c (p_extract rfl (Sees.of rfl) rfl)) rfl rfl rfl rfl) ?_
        refine scons (r_alloc (ob := 10009) rfl wAll3_zer28 rfl rfl rfl rfl rfl rfl) ?_
        refine scons (CStep.step (PStep.c (p_assign (y := .val _) rfl (Sees.of rfl) rfl)) rfl rfl rfl rfl) ?_
        refine scons (r_storeS rfl wAll3_siz28 rfl rfl rfl (Sees.of rfl) rfl (Sees.of rfl) rfl rfl rfl rfl) ?_
        refine snil ?_
        refine f_seq ?_
        refine f_region ?_
        refine scons (CStep.step (PStep.c (p_loadBS rfl wAll3_agg28 wAll3_siz28 (Sees.of rfl) rfl rfl rfl)) rfl rfl rfl rfl) ?_
        refine scons (CStep.step (PStep.c (p_loadBS rfl wAll3_agg28 wAll3_siz28 (Sees.of rfl) rfl rfl rfl)) rfl rfl rfl rfl) ?_
        refine scons (CStep.step (PStep.c (p_eqlS2 rfl wAll3_eq228 (Sees.of rfl) (Sees.of rfl))) rfl rfl rfl rfl) ?_
        refine scons (CStep.step (PStep.c (p_move (y := .val _) rfl (Sees.of rfl) rfl)) rfl rfl rfl rfl) ?_
        refine scons (CStep.guard rfl rfl rfl (fun hg0 => PStep.c (p_move (y := .val _) rfl (Sees.of rfl) rfl)) rfl rfl rfl rfl rfl) ?_
        refine scons (CStep.guard rfl rfl rfl (fun hg0 => PStep.c (p_len rfl wAll3_isl22 (Sees.gv' rfl hg0))) rfl rfl rfl rfl rfl) ?_
        refine scons (CStep.guard rfl rfl rfl (fun hg0 => PStep.c (p_move (y := .val _) rfl (Sees.of rfl) rfl)) rfl rfl rfl rfl rfl) ?_
        refine scons (CStep.guard rfl rfl rfl (fun hg0 => PStep.c (p_loadBS rfl wAll3_agg26 wAll3_siz26 (Sees.of rfl) rfl rfl rfl)) rfl rfl rfl rfl rfl) ?_
        refine scons (CStep.guard rfl rfl rfl (fun hg0 => PStep.c (p_move (y := .val _) rfl (Sees.of rfl) rfl)) rfl rfl rfl rfl rfl) ?_
        refine scons (CStep.guard rfl rfl rfl (fun hg0 => by have hp0 := hg0; (try simp only [bs] at hp0); exact c_call rfl wAll3_isf32 ⟨_, _, rfl, (Sees.gv' rfl hg0), rfl, ⟨_, _, rfl, (Sees.gv' rfl hg0), rfl, rfl⟩⟩ (OntoR_spec m ls vars (by omega) hG hc3)) rfl rfl rfl rfl rfl) ?_
        refine scons (CStep.guard rfl rfl rfl (fun hg0 => by have hp0 := hg0; (try simp only [bs] at hp0); exact c_call rfl wAll3_isf29 ⟨_, _, rfl, (Sees.gv' rfl hg0), rfl, ⟨_, _, rfl, (Sees.gv' rfl hg0), rfl, ⟨_, _, rfl, (Sees.gv' rfl hg0), rfl, rfl⟩⟩⟩ (words_spec vars.length _ _ (by omega))) rfl rfl rfl rfl rfl) ?_
        refine scons (CStep.step (PStep.c (p_and rfl (Sees.of rfl) (fun h => Sees.gv' rfl (beq_of_eq h)) (Sees.of rfl))) rfl rfl rfl rfl) ?_
        refine scons (CStep.step (PStep.c (p_move (y := .val _) rfl (Sees.of rfl) rfl)) rfl rfl rfl rfl) ?_
        refine scons (CStep.guard rfl rfl rfl (fun hg0 => PStep.c (p_fieldRef rfl wAll3_fld28_0 wAll3_siz3 rfl (Sees.of rfl) rfl)) rfl rfl rfl rfl rfl) ?_
        refine scons (CStep.guard rfl rfl rfl (fun hg0 => PStep.c (p_loadB (y := .val _) rfl wAll3_agg3 (Sees.gv' rfl hg0) rfl rfl rfl rfl)) rfl rfl rfl rfl rfl) ?_
        refine scons (CStep.guard rfl rfl rfl (fun hg0 => PStep.c (p_eql rfl (Sees.gv' rfl hg0) (Sees.of rfl))) rfl rfl rfl rfl rfl) ?_
        refine scons (CStep.step (PStep.c (p_and rfl (Sees.of rfl) (fun h => Sees.gv' rfl (beq_of_eq h)) (Sees.of rfl))) rfl rfl rfl rfl) ?_
        refine scons (CStep.step (PStep.c (p_move (y := .val _) rfl (Sees.of rfl) rfl)) rfl rfl rfl rfl) ?_
        refine scons (CStep.guard rfl rfl rfl (fun hg0 => PStep.c (p_move (y := .val _) rfl (Sees.of rfl) rfl)) rfl rfl rfl rfl rfl) ?_
        refine scons (CStep.guard rfl rfl rfl (fun hg0 => PStep.c (p_eql rfl (Sees.gv' rfl hg0) (Sees.of rfl))) rfl rfl rfl rfl rfl) ?_
        refine scons (CStep.step (PStep.c (p_and rfl (Sees.of rfl) (fun h => Sees.gv' rfl (beq_of_eq h)) (Sees.of rfl))) rfl rfl rfl rfl) ?_
        refine scons (CStep.step (PStep.c (p_assign (y := .val _) rfl (Sees.of rfl) rfl)) rfl rfl rfl rfl) ?_
        refine snil ?_
        refine f_ret ?_
        refine ends_ret (res_eq (res1 rfl (res_tmp rfl (Sees.of rfl))) ?_)
        rw [show Sp.onto m ls vars = (Sp.asg vars.length (Sp.proj m ls vars), (0, 0)) by rw [Sp.onto, if_neg (fun h => h hc2), if_neg (fun h => h hc3)]; rfl, (Sp.varsW_ok hc3).1, Sp.count_pair, Sp.ofN_map]
        simp
    · intro hc2
      try simp only [bs] at hc2
      refine f_skip ?_
      refine f_seq ?_
      refine f_seq ?_
      refine f_region ?_
      refine scons (CStep.step (PStep.c (p_fieldRef rfl wAll3_fld28_0 wAll3_siz3 rfl (Sees.of rfl) rfl)) rfl rfl rfl rfl) ?_
      refine scons (CStep.step (PStep.c (p_loadB (y := .val _) rfl wAll3_agg3 (Sees.of rfl) rfl rfl rfl rfl)) rfl rfl rfl rfl) ?_
      refine scons (CStep.step (PStep.c (p_neq rfl (Sees.of rfl) (Sees.of rfl))) rfl rfl rfl rfl) ?_
      refine snil ?_
      refine f_cond rfl ?_ ?_
      · intro hc4
        try simp only [bs] at hc4
        refine f_seq ?_
        refine f_region ?_
        refine scons (CStep.step (PStep.c (p_loadBS rfl wAll3_agg28 wAll3_siz28 (Sees.of rfl) rfl rfl rfl)) rfl rfl rfl rfl) ?_
        refine scons (CStep.step (PStep.c (p_loadBS rfl wAll3_agg28 wAll3_siz28 (Sees.of rfl) rfl rfl rfl)) rfl rfl rfl rfl) ?_
        refine scons (CStep.step (PStep.c (p_eqlS2 rfl wAll3_eq228 (Sees.of rfl) (Sees.of rfl))) rfl rfl rfl rfl) ?_
        refine scons (CStep.step (PStep.c (p_move (y := .val _) rfl (Sees.of rfl) rfl)) rfl rfl rfl rfl) ?_
        refine scons (CStep.guard rfl rfl rfl (fun hg0 => PStep.c (p_move (y := .val _) rfl (Sees.of rfl) rfl)) rfl rfl rfl rfl rfl) ?_
        refine scons (CStep.guard rfl rfl rfl (fun hg0 => PStep.c (p_len rfl wAll3_isl49 (Sees.gv' rfl hg0))) rfl rfl rfl rfl rfl) ?_
        refine scons (CStep.guard rfl rfl rfl (fun hg0 => PStep.c (p_eql rfl (Sees.gv' rfl hg0) (Sees.of rfl))) rfl rfl rfl rfl rfl) ?_
        refine scons (CStep.step (PStep.c (p_and rfl (Sees.of rfl) (fun h => Sees.gv' rfl (beq_of_eq h)) (Sees.of rfl))) rfl rfl rfl rfl) ?_
        refine scons (CStep.step (PStep.c (p_assign (y := .val _) rfl (Sees.of rfl) rfl)) rfl rfl rfl rfl) ?_
        refine snil ?_
        refine f_ret ?_
        refine ends_ret (res_eq (res1 rfl (res_tmp rfl (Sees.of rfl))) ?_)
        rw [show Sp.onto n ls vars = ([], Sp.tryW n ls) by rw [Sp.onto, if_pos hc2]]
        simp
      · intro hc4
        try simp only [bs] at hc4
        exact absurd hc4 hc2

end Go.Um
