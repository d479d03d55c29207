/- Walks of Go functions of this seat, each by its contract. No condition beyond what each theorem says. -/
import Derived.Test.YtofonmfoificjaaWAll2
import Derived.Test.YtofonmfoificjaaSpG
import Derived.Test.YtofonmfoificjaaProg
import Derived.KernelRfl
set_option maxRecDepth 4000
namespace Go.Um
open Go Go.RowKit

theorem wAll3_agg22 : IsAgg Go.Proofs.Try.prog 22 false := by unfold IsAgg; kernel_rfl
theorem wAll3_agg24 : IsAgg Go.Proofs.Try.prog 24 true := by unfold IsAgg; kernel_rfl
theorem wAll3_agg25 : IsAgg Go.Proofs.Try.prog 25 false := by unfold IsAgg; kernel_rfl
theorem wAll3_agg28 : IsAgg Go.Proofs.Try.prog 28 true := by unfold IsAgg; kernel_rfl
theorem wAll3_agg3 : IsAgg Go.Proofs.Try.prog 3 false := by unfold IsAgg; kernel_rfl
theorem wAll3_agg31 : IsAgg Go.Proofs.Try.prog 31 false := by unfold IsAgg; kernel_rfl
theorem wAll3_agg4 : IsAgg Go.Proofs.Try.prog 4 false := by unfold IsAgg; kernel_rfl
theorem wAll3_byt31 : Bytes Go.Proofs.Try.prog 31 24 := by unfold Bytes; kernel_rfl
theorem wAll3_byt4 : Bytes Go.Proofs.Try.prog 4 1 := by unfold Bytes; kernel_rfl
theorem wAll3_fld24_0 : IsField Go.Proofs.Try.prog 24 0 0 3 := by unfold IsField; kernel_rfl
theorem wAll3_fld24_1 : IsField Go.Proofs.Try.prog 24 1 1 22 := by unfold IsField; kernel_rfl
theorem wAll3_fld28_0 : IsField Go.Proofs.Try.prog 28 0 0 3 := by unfold IsField; kernel_rfl
theorem wAll3_isf124 : IsFn Go.Proofs.Try.prog 124 := by unfold IsFn; kernel_rfl
theorem wAll3_isf62 : IsFn Go.Proofs.Try.prog 62 := by unfold IsFn; kernel_rfl
theorem wAll3_isf63 : IsFn Go.Proofs.Try.prog 63 := by unfold IsFn; kernel_rfl
theorem wAll3_isf64 : IsFn Go.Proofs.Try.prog 64 := by unfold IsFn; kernel_rfl
theorem wAll3_isf65 : IsFn Go.Proofs.Try.prog 65 := by unfold IsFn; kernel_rfl
theorem wAll3_isf66 : IsFn Go.Proofs.Try.prog 66 := by unfold IsFn; kernel_rfl
theorem wAll3_isf67 : IsFn Go.Proofs.Try.prog 67 := by unfold IsFn; kernel_rfl
theorem wAll3_isl25 : IsSlice Go.Proofs.Try.prog 25 3 := by unfold IsSlice; kernel_rfl
theorem wAll3_isl31 : IsSlice Go.Proofs.Try.prog 31 4 := by unfold IsSlice; kernel_rfl
theorem wAll3_isl35 : IsSlice Go.Proofs.Try.prog 35 31 := by unfold IsSlice; kernel_rfl
theorem wAll3_mix : (Go.Proofs.Try.prog).follows .mixedOrders = true := by kernel_rfl
theorem wAll3_plc28 : Places Go.Proofs.Try.prog 28 [(0, 1), (1, 1)] := by unfold Places; kernel_rfl
theorem wAll3_siz22 : Size Go.Proofs.Try.prog 22 1 := by unfold Size; kernel_rfl
theorem wAll3_siz24 : Size Go.Proofs.Try.prog 24 2 := by unfold Size; kernel_rfl
theorem wAll3_siz28 : Size Go.Proofs.Try.prog 28 2 := by unfold Size; kernel_rfl
theorem wAll3_siz3 : Size Go.Proofs.Try.prog 3 1 := by unfold Size; kernel_rfl
theorem wAll3_siz31 : Size Go.Proofs.Try.prog 31 1 := by unfold Size; kernel_rfl
theorem wAll3_siz4 : Size Go.Proofs.Try.prog 4 1 := by unfold Size; kernel_rfl
def wAll3_z28 : D := .cons (.int .i64 0) (.cons (.int .i64 0) (.nil))
theorem wAll3_zch28 : ∀ (ok : Nat → Prop) (w : World), R Go.Proofs.Try.prog wAll3_z28 ok w (Value.cells (.agg #[(.int .i64 0), (.int .i64 0)])).toList := fun _ _ => z_int (z_int (z_nil))
theorem wAll3_zer28 : Zero Go.Proofs.Try.prog 28 (.agg #[(.int .i64 0), (.int .i64 0)]) := by unfold Zero; kernel_rfl
theorem wAll3_zer31 : Zero Go.Proofs.Try.prog 31 (.slice none 0 0) := by unfold Zero; kernel_rfl
theorem wAll3_zer4 : Zero Go.Proofs.Try.prog 4 (.bool false) := by unfold Zero; kernel_rfl

theorem onto1_spec (v : Int) :
    Spec Go.Proofs.Try.prog 65 [iv v] (D.bool (decide (v < 0))) := by
  refine spec_of' Go.Proofs.Try.func65 rfl Go.Proofs.Try.ntmps65 rfl ?_
  refine f_seq ?_
  refine f_region ?_
  refine scons (CStep.step (PStep.c (p_assign (y := .val _) rfl (Sees.of rfl) rfl)) rfl rfl rfl rfl) ?_
  refine snil ?_
  refine f_seq ?_
  refine f_region ?_
  refine scons (CStep.step (PStep.c (p_move (y := .val _) rfl (Sees.of rfl) rfl)) rfl rfl rfl rfl) ?_
  refine scons (CStep.step (PStep.c (p_lss rfl (Sees.of rfl) (Sees.of rfl))) rfl rfl rfl rfl) ?_
  refine scons (CStep.step (PStep.c (p_assign (y := .val _) rfl (Sees.of rfl) rfl)) rfl rfl rfl rfl) ?_
  refine snil ?_
  refine f_ret ?_
  refine ends_ret (res_eq (res1 rfl (res_tmp rfl (Sees.of rfl))) ?_)
  rfl

set_option maxHeartbeats 1000000 in
theorem Onto_spec (n : Int) (ls : List (List Int)) (vars : List Int) :
    Spec Go.Proofs.Try.prog 20 [.val (cnf n ls), .val (ints vars)] (two (boolss (Sp.onto n ls vars).1) (fault (Sp.onto n ls vars).2.1 (Sp.onto n ls vars).2.2)) := by
  refine spec_of' Go.Proofs.Try.func20 rfl Go.Proofs.Try.ntmps20 rfl ?_
  refine f_seq ?_
  refine f_wf (.tmp 1) rfl (fun hwf => ?_) (by simp)
  have hlen : vars.length ≤ 140737488355328 := hwf.1
  clear hwf
  refine f_region ?_
  refine scons (r_box (ob := 10002) rfl (Sees.of rfl) rfl rfl rfl rfl rfl rfl) ?_
  refine scons (r_box (ob := 10003) rfl (Sees.of rfl) rfl rfl rfl rfl rfl rfl) ?_
  refine scons (CStep.step (PStep.c (p_assign (y := .emp) rfl (Sees.of rfl) rfl)) rfl rfl rfl rfl) ?_
  refine scons (r_alloc (ob := 10005) rfl wAll3_zer28 rfl rfl rfl rfl rfl rfl) ?_
  refine snil ?_
  refine f_seq ?_
  refine f_seq ?_
  refine f_region ?_
  refine scons (CStep.step (PStep.c (p_loadBS rfl wAll3_agg24 wAll3_siz24 (Sees.of rfl) rfl rfl rfl)) rfl rfl rfl rfl) ?_
  refine scons (CStep.step (c_call rfl wAll3_isf62 ⟨_, _, rfl, (Sees.of rfl), rfl, rfl⟩ (allCheck_spec n ls)) rfl rfl rfl rfl) ?_
  refine scons (r_alloc (ob := 10006) rfl wAll3_zer28 rfl rfl rfl rfl rfl rfl) ?_
  refine scons (r_storeS rfl wAll3_siz28 rfl rfl rfl (Sees.of rfl) rfl (Sees.of rfl) rfl rfl rfl rfl) ?_
  refine snil ?_
  refine f_seq ?_
  refine f_region ?_
  refine scons (CStep.step (PStep.c (p_fieldRef rfl wAll3_fld28_0 wAll3_siz3 rfl (Sees.of rfl) rfl)) rfl rfl rfl rfl) ?_
  refine scons (CStep.step (PStep.c (p_loadB (y := .val _) rfl wAll3_agg3 (Sees.of rfl) rfl rfl rfl rfl)) rfl rfl rfl rfl) ?_
  refine scons (CStep.step (PStep.c (p_neq rfl (Sees.of rfl) (Sees.of rfl))) rfl rfl rfl rfl) ?_
  refine snil ?_
  refine f_cond rfl ?_ ?_
  · intro hc1
    try simp only [bs] at hc1
    refine f_seq ?_
    refine f_draw wAll3_mix (by kernel_rfl) ?_
    refine dcons (CStep.step (PStep.c (p_loadBS rfl wAll3_agg28 wAll3_siz28 (Sees.of rfl) rfl rfl rfl)) rfl rfl rfl rfl) ?_
    refine dcons (CStep.step (PStep.c (p_assign (y := .emp) rfl (Sees.of rfl) rfl)) rfl rfl rfl rfl) ?_
    refine dcons (r_storeS rfl wAll3_siz28 rfl rfl rfl (Sees.of rfl) rfl (Sees.of rfl) rfl rfl rfl rfl) ?_
    refine dnil (by kernel_rfl) ?_
    refine f_ret ?_
    refine ends_ret (res_eq (res2 rfl (res_tmp rfl (Sees.emp rfl 1 bools [])) (res_cell (by rfl) rfl rfl wAll3_agg28 wAll3_siz28 rfl rfl)) ?_)
    rw [Sp.onto, if_pos hc1]
    all_goals rfl
  · intro hc1
    try simp only [bs] at hc1
    obtain ⟨m, rfl⟩ : ∃ m : Nat, n = (m : Int) := ⟨n.toNat, by have := Sp.tryW_ok hc1; omega⟩
    have hko := Sp.tryW_ok hc1
    have hG := Sp.check_good hko.1 (m := m) rfl
    have hp16 := Sp.pow16 (n := m) (by omega)
    have hneg := Sp.idx_le (fun v => decide (v < 0)) vars
    refine f_skip ?_
    refine f_seq ?_
    refine f_seq ?_
    refine f_region ?_
    refine scons (CStep.step (PStep.c (p_loadB (y := .val _) rfl wAll3_agg25 (Sees.of rfl) rfl rfl rfl rfl)) rfl rfl rfl rfl) ?_
    refine scons (CStep.step (PStep.c (p_fieldRef rfl wAll3_fld24_0 wAll3_siz3 rfl (Sees.of rfl) rfl)) rfl rfl rfl rfl) ?_
    refine scons (CStep.step (PStep.c (p_loadB (y := .val _) rfl wAll3_agg3 (Sees.of rfl) rfl rfl rfl rfl)) rfl rfl rfl rfl) ?_
    refine scons (CStep.step (c_call rfl wAll3_isf63 ⟨_, _, rfl, (Sees.of rfl), rfl, ⟨_, _, rfl, (Sees.of rfl), rfl, rfl⟩⟩ (list_spec vars m (by omega))) rfl rfl rfl rfl) ?_
    refine scons (r_alloc (ob := 10007) rfl wAll3_zer28 rfl rfl rfl rfl rfl rfl) ?_
    refine scons (r_storeS rfl wAll3_siz28 rfl rfl rfl (Sees.of rfl) rfl (Sees.of rfl) rfl rfl rfl rfl) ?_
    refine snil ?_
    refine f_seq ?_
    refine f_region ?_
    refine scons (CStep.step (PStep.c (p_fieldRef rfl wAll3_fld28_0 wAll3_siz3 rfl (Sees.of rfl) rfl)) rfl rfl rfl rfl) ?_
    refine scons (CStep.step (PStep.c (p_loadB (y := .val _) rfl wAll3_agg3 (Sees.of rfl) rfl rfl rfl rfl)) rfl rfl rfl rfl) ?_
    refine scons (CStep.step (PStep.c (p_neq rfl (Sees.of rfl) (Sees.of rfl))) rfl rfl rfl rfl) ?_
    refine snil ?_
    refine f_cond rfl ?_ ?_
    · intro hc2
      try simp only [bs] at hc2
      refine f_seq ?_
      refine f_draw wAll3_mix (by kernel_rfl) ?_
      refine dcons (CStep.step (PStep.c (p_loadBS rfl wAll3_agg28 wAll3_siz28 (Sees.of rfl) rfl rfl rfl)) rfl rfl rfl rfl) ?_
      refine dcons (CStep.step (PStep.c (p_assign (y := .emp) rfl (Sees.of rfl) rfl)) rfl rfl rfl rfl) ?_
      refine dcons (r_storeS rfl wAll3_siz28 rfl rfl rfl (Sees.of rfl) rfl (Sees.of rfl) rfl rfl rfl rfl) ?_
      refine dnil (by kernel_rfl) ?_
      refine f_ret ?_
      refine ends_ret (res_eq (res2 rfl (res_tmp rfl (Sees.emp rfl 1 bools [])) (res_cell (by rfl) rfl rfl wAll3_agg28 wAll3_siz28 rfl rfl)) ?_)
      rw [Sp.onto, if_neg (fun h => h hc1), if_pos (by rw [Sp.varsW, if_pos hc2]; exact hc2), Sp.varsW, if_pos hc2]
      all_goals rfl
    · intro hc2
      try simp only [bs] at hc2
      refine f_skip ?_
      refine f_seq ?_
      refine f_seq ?_
      refine f_region ?_
      refine scons (CStep.step (PStep.c (p_loadB (y := .val _) rfl wAll3_agg25 (Sees.of rfl) rfl rfl rfl rfl)) rfl rfl rfl rfl) ?_
      refine scons (CStep.step (c_callS (q := false) rfl wAll3_isf64 (indexI_spec vars (fun v => decide (v < 0)) (fun _ => True) (fun _ _ => trivial)) (sa_cons (sh_of (Sees.of rfl) rfl) (sa_cons (sh_clo (Sees.of rfl) wAll3_isf65 (sl_nil) (fun _ => rfl) (fun _ => rfl) (fun v => onto1_spec v.1)) (sa_nil))) rfl) rfl rfl rfl rfl) ?_
      refine scons (CStep.step (PStep.c (p_assign (y := .val _) rfl (Sees.of rfl) rfl)) rfl rfl rfl rfl) ?_
      refine snil ?_
      refine f_seq ?_
      refine f_region ?_
      refine scons (CStep.step (PStep.c (p_move (y := .val _) rfl (Sees.of rfl) rfl)) rfl rfl rfl rfl) ?_
      refine scons (CStep.step (PStep.c (p_geq rfl (Sees.of rfl) (Sees.of rfl))) rfl rfl rfl rfl) ?_
      refine snil ?_
      refine f_cond rfl ?_ ?_
      · intro hc3
        try simp only [bs] at hc3
        refine f_seq ?_
        refine f_region ?_
        refine scons (CStep.step (PStep.c (p_move (y := .val _) rfl (Sees.of rfl) rfl)) rfl rfl rfl rfl) ?_
        refine scons (CStep.step (PStep.c (p_sub rfl (Sees.of rfl) (Sees.of rfl) (by omega))) rfl rfl rfl rfl) ?_
        refine scons (CStep.step (PStep.c (p_build rfl wAll3_plc28 wAll3_zer28 (by decide) wAll3_zch28 ⟨_, _, _, rfl, rfl, rfl, (Sees.of rfl), ⟨_, _, _, rfl, rfl, rfl, (Sees.of rfl), rfl⟩⟩ rfl)) rfl rfl rfl rfl) ?_
        refine scons (CStep.step (PStep.c (p_assign (y := .emp) rfl (Sees.of rfl) rfl)) rfl rfl rfl rfl) ?_
        refine scons (r_storeS rfl wAll3_siz28 rfl rfl rfl (Sees.of rfl) rfl (Sees.of rfl) rfl rfl rfl rfl) ?_
        refine snil ?_
        refine f_ret ?_
        refine ends_ret (res_eq (res2 rfl (res_tmp rfl (Sees.emp rfl 1 bools [])) (res_cell (by rfl) rfl rfl wAll3_agg28 wAll3_siz28 rfl rfl)) ?_)
        have e : Sp.varsW m vars = (3, -1 - Sp.neg0 vars) := by rw [Sp.varsW, if_neg (fun h => h hc2), if_pos (show 0 ≤ Sp.neg0 vars from hc3)]
        rw [Sp.onto, if_neg (fun h => h hc1), e, if_pos (by simp)]
        all_goals rfl
      · intro hc3
        try simp only [bs] at hc3
        have hvw : (Sp.varsW m vars).1 = 0 := by rw [Sp.varsW, if_neg (fun h => h hc2), if_neg (by unfold Sp.neg0; omega)]
        have hvo := Sp.vars_ok hvw
        have hpv := Sp.pow16 (n := vars.length) (by omega)
        have hpvw := Sp.pow_ok (m := vars.length) (by omega)
        have hpvn := Sp.pow_nat vars.length
        refine f_skip ?_
        refine f_seq ?_
        refine f_region ?_
        refine scons (CStep.step (PStep.c (p_loadB (y := .val _) rfl wAll3_agg25 (Sees.of rfl) rfl rfl rfl rfl)) rfl rfl rfl rfl) ?_
        refine scons (CStep.step (PStep.c (p_len rfl wAll3_isl25 (Sees.of rfl))) rfl rfl rfl rfl) ?_
        refine scons (CStep.step (PStep.c (p_shl rfl (Sees.of rfl) (Sees.of rfl) (by omega) (by omega) (by first | omega | assumption))) rfl rfl rfl rfl) ?_
        refine scons (r_make (m := 2 ^ vars.length) (f := D.bool) (z := false) (ob := 30001) rfl wAll3_isl31 wAll3_siz4 wAll3_byt4 wAll3_zer4 rfl rfl rfl (fun _ _ => rfl) (Sees.of (congrArg (fun q => AV.val (.int .i64 q)) hpvn)) (by omega) (by omega) rfl rfl rfl rfl rfl) ?_
        refine scons (r_alloc (ob := 10009) rfl wAll3_zer31 rfl rfl rfl rfl rfl rfl) ?_
        refine scons (r_storeR rfl wAll3_siz31 rfl rfl rfl (Sees.of rfl) rfl rfl (Sees.of rfl) rfl) ?_
        refine snil ?_
        refine f_seq ?_
        refine f_seq ?_
        refine f_region ?_
        refine scons (CStep.step (PStep.c (p_fieldRef rfl wAll3_fld24_1 wAll3_siz22 rfl (Sees.of rfl) rfl)) rfl rfl rfl rfl) ?_
        refine scons (CStep.step (PStep.c (p_loadB (y := .val _) rfl wAll3_agg22 (Sees.of rfl) rfl rfl rfl rfl)) rfl rfl rfl rfl) ?_
        refine scons (CStep.step (PStep.c (p_fieldRef rfl wAll3_fld24_0 wAll3_siz3 rfl (Sees.of rfl) rfl)) rfl rfl rfl rfl) ?_
        refine scons (CStep.step (PStep.c (p_loadB (y := .val _) rfl wAll3_agg3 (Sees.of rfl) rfl rfl rfl rfl)) rfl rfl rfl rfl) ?_
        refine scons (CStep.step (c_callA rfl wAll3_isf66 (each_spec m ls) (sa_cons (sh_of (Sees.of rfl) rfl) (sa_cons (sh_of (Sees.of rfl) rfl) (sa_nil))) rfl) rfl rfl rfl rfl) ?_
        refine snil ?_
        refine f_block ?_
        refine f_range [(46, .clo 124 (.ccons (.ptr (di m)) (.ccons (.ptr (intss ls)) .cnil))), (2, .ref 10002 0 0), (3, .ref 10003 0 0), (5, .ref 10005 0 0), (9, .ref 10009 0 0)] (fun k => [(10002, .box 0 (.ccons (iv m) (.ccons (.val (intss ls)) .cnil))), (10003, .box 0 (.ccons (.val (ints vars)) .cnil)), (10005, .box 0 (.ccons (iv 0) (.ccons (iv 0) .cnil))), (10009, .box 0 (.ccons (.row 30001 0) .cnil)), (30001, .arr 0 4 1 1 D.bool false (Sp.seenL m vars (Sp.modsTo m ls k)))]) (fun _ => none) (fun k => True) (fun k => True) (trivial) (fun _ _ _ h => h) rfl (each1_iter m (by omega) ls hG) wAll3_isf124 rfl (le_ofL ⟨rfl, rfl, rfl, rfl, rfl, rfl, rfl, rfl, rfl, (by show _ = AV.arr _ _ _ _ _ _ (Sp.seenL m vars []); rw [Sp.seenL_nil]; rfl), trivial⟩ rfl) rfl rfl (fun k hk hy => ⟨rfl, fun _ _ h => by cases h⟩) (fun _ => rfl) (fun k hk hy => by show _ = _; rw [Sp.modsTo_no hy]) ?_ ?_ ?_
        · intro k hk hy hI
          have hsl := Sp.seenL_len m vars (Sp.modsTo m ls k)
          have hbl := Sp.bits_length m k
          refine f_region ?_
          refine scons (CStep.step (PStep.c (p_assign (y := .val _) rfl (Sees.of rfl) rfl)) rfl rfl rfl rfl) ?_
          refine snil ?_
          refine f_nil ?_
          show AWs _ _ _ _ _
          refine f_block ?_
          refine f_seq ?_
          refine f_region ?_
          refine scons (CStep.step (PStep.c (p_assign (y := .val _) rfl (Sees.of rfl) rfl)) rfl rfl rfl rfl) ?_
          refine snil ?_
          refine f_seq ?_
          refine f_seq ?_
          refine f_region ?_
          refine scons (CStep.step (PStep.c (p_loadB (y := .val _) rfl wAll3_agg25 (Sees.of rfl) rfl rfl rfl rfl)) rfl rfl rfl rfl) ?_
          refine scons (CStep.step (PStep.c (p_len rfl wAll3_isl25 (Sees.of rfl))) rfl rfl rfl rfl) ?_
          refine scons (CStep.step (PStep.c (p_move (y := .val _) rfl (Sees.of rfl) rfl)) rfl rfl rfl rfl) ?_
          refine snil ?_
          refine f_block ?_
          refine f_loop (α := Nat) (fun j => j ≤ vars.length) (fun j => [(50, iv j), (48, .val (ints vars)), (49, iv vars.length), (11, iv (Sp.keyTo vars (Sp.bits m k) j)), (10, .val (bools (Sp.bits m k))), (46, .clo 124 (.ccons (.ptr (di m)) (.ccons (.ptr (intss ls)) .cnil))), (2, .ref 10002 0 0), (3, .ref 10003 0 0), (5, .ref 10005 0 0), (9, .ref 10009 0 0), (10002, .box 0 (.ccons (iv m) (.ccons (.val (intss ls)) .cnil))), (10003, .box 0 (.ccons (.val (ints vars)) .cnil)), (10005, .box 0 (.ccons (iv 0) (.ccons (iv 0) .cnil))), (10009, .box 0 (.ccons (.row 30001 0) .cnil)), (30001, .arr 0 4 1 1 D.bool false (Sp.seenL m vars (Sp.modsTo m ls k))), (29999, .clo 0 (anchor [(10002, .box 0 (.ccons (iv m) (.ccons (.val (intss ls)) .cnil))), (10003, .box 0 (.ccons (.val (ints vars)) .cnil)), (10005, .box 0 (.ccons (iv 0) (.ccons (iv 0) .cnil))), (10009, .box 0 (.ccons (.row 30001 0) .cnil)), (30001, .arr 0 4 1 1 D.bool false (Sp.seenL m vars (Sp.modsTo m ls k)))]))]) (fun j => vars.length - j) 0 ?_ ?_ ?_
          · exact Nat.zero_le _
          · exact le_ofL ⟨rfl, rfl, rfl, rfl, rfl, rfl, rfl, rfl, rfl, rfl, rfl, rfl, rfl, rfl, rfl, rfl, trivial⟩ rfl
          · rintro j hj
            have hj : j ≤ vars.length := hj
            have hkt := Sp.keyTo_lt vars (Sp.bits m k) j
            have hpj : 2 ^ j ≤ 2 ^ vars.length := Nat.pow_le_pow_right (by decide) hj
            refine f_seq ?_
            refine f_region ?_
            refine scons (CStep.step (PStep.c (p_lss rfl (Sees.of rfl) (Sees.of rfl))) rfl rfl rfl rfl) ?_
            refine snil ?_
            refine f_seq ?_
            refine f_cond rfl ?_ ?_
            · intro hc4
              try simp only [bs] at hc4
              refine f_skip ?_
              refine f_seq ?_
              refine f_block ?_
              refine f_seq ?_
              refine f_region ?_
              refine scons (CStep.step (PStep.c ((by first | exact p_indexN rfl wAll3_isl25 wAll3_siz3 (Sees.of rfl) (Sees.of rfl) (by omega) | exact p_index rfl wAll3_isl25 wAll3_siz3 (Sees.of rfl) (Sees.of rfl) (by omega) (by omega)))) rfl rfl rfl rfl) ?_
              refine scons (CStep.step (PStep.c (p_load rfl wAll3_agg3 (Sees.of rfl) rfl)) rfl rfl rfl rfl) ?_
              refine scons (CStep.step (PStep.c (p_assign (y := .val _) rfl (Sees.of rfl) rfl)) rfl rfl rfl rfl) ?_
              refine snil ?_
              refine f_seq ?_
              refine f_region ?_
              refine scons (CStep.step (PStep.c (p_move (y := .val _) rfl (Sees.of rfl) rfl)) rfl rfl rfl rfl) ?_
              refine scons (CStep.step (PStep.c (p_mul rfl (Sees.of rfl) (Sees.of rfl) (by omega))) rfl rfl rfl rfl) ?_
              refine scons (CStep.step (PStep.c (p_assign (y := .val _) rfl (Sees.of rfl) rfl)) rfl rfl rfl rfl) ?_
              refine snil ?_
              refine f_seq ?_
              have hvj := hvo.1 _ (Sp.getD_mem vars j 0 (by omega))
              refine f_region ?_
              refine scons (CStep.step (PStep.c (p_move (y := .val _) rfl (Sees.of rfl) rfl)) rfl rfl rfl rfl) ?_
              refine scons (CStep.step (PStep.c (p_move (y := .val _) rfl (Sees.of rfl) rfl)) rfl rfl rfl rfl) ?_
              refine scons (CStep.step (PStep.c (p_sub rfl (Sees.of rfl) (Sees.of rfl) (by omega))) rfl rfl rfl rfl) ?_
              refine scons (CStep.step (PStep.c ((by first | exact p_indexN rfl wAll3_isl31 wAll3_siz4 (Sees.of rfl) (Sees.of rfl) (by omega) | exact p_index rfl wAll3_isl31 wAll3_siz4 (Sees.of rfl) (Sees.of rfl) (by omega) (by omega)))) rfl rfl rfl rfl) ?_
              refine scons (CStep.step (PStep.c (p_load rfl wAll3_agg4 (Sees.of rfl) rfl)) rfl rfl rfl rfl) ?_
              refine snil ?_
              refine f_cond rfl ?_ ?_
              · intro hc5
                try simp only [bs] at hc5
                refine f_region ?_
                refine scons (CStep.step (PStep.c (p_move (y := .val _) rfl (Sees.of rfl) rfl)) rfl rfl rfl rfl) ?_
                refine scons (CStep.step (PStep.c (p_add rfl (Sees.of rfl) (Sees.of rfl) (by omega))) rfl rfl rfl rfl) ?_
                refine scons (CStep.step (PStep.c (p_assign (y := .val _) rfl (Sees.of rfl) rfl)) rfl rfl rfl rfl) ?_
                refine snil ?_
                refine f_nil ?_
                show AWs _ _ _ _ _
                refine f_region ?_
                refine scons (CStep.step (PStep.c (p_add rfl (Sees.of rfl) (Sees.of rfl) (by omega))) rfl rfl rfl rfl) ?_
                refine scons (CStep.step (PStep.c (p_move (y := .val _) rfl (Sees.of rfl) rfl)) rfl rfl rfl rfl) ?_
                refine snil ?_
                refine f_back ⟨j + 1, ?_, ?_, le_ofL ⟨rfl, rfl, rfl, (by rw [Sp.keyTo_yes hc5]; show AV.val (.int .i64 (((Sp.keyTo vars (Sp.bits m k) j) : Int) * 2 + 1)) = _; exact congrArg (fun q => AV.val (.int .i64 q)) (by omega)), rfl, rfl, rfl, rfl, rfl, rfl, rfl, rfl, rfl, rfl, rfl, rfl, trivial⟩ rfl⟩
                · omega
                · omega
              · intro hc5
                try simp only [bs] at hc5
                refine f_skip ?_
                refine f_nil ?_
                show AWs _ _ _ _ _
                refine f_region ?_
                refine scons (CStep.step (PStep.c (p_add rfl (Sees.of rfl) (Sees.of rfl) (by omega))) rfl rfl rfl rfl) ?_
                refine scons (CStep.step (PStep.c (p_move (y := .val _) rfl (Sees.of rfl) rfl)) rfl rfl rfl rfl) ?_
                refine snil ?_
                refine f_back ⟨j + 1, ?_, ?_, le_ofL ⟨rfl, rfl, rfl, (by rw [Sp.keyTo_no hc5]; show AV.val (.int .i64 (((Sp.keyTo vars (Sp.bits m k) j) : Int) * 2)) = _; exact congrArg (fun q => AV.val (.int .i64 q)) (by omega)), rfl, rfl, rfl, rfl, rfl, rfl, rfl, rfl, rfl, rfl, rfl, rfl, trivial⟩ rfl⟩
                · omega
                · omega
            · intro hc4
              try simp only [bs] at hc4
              refine f_exit ?_
              show AWs _ _ _ _ _
              obtain rfl : j = vars.length := by omega
              refine f_region ?_
              refine scons (CStep.step (PStep.c (p_loadB (y := .row _ _) rfl wAll3_agg31 (Sees.of rfl) rfl rfl rfl rfl)) rfl rfl rfl rfl) ?_
              refine scons (CStep.step (PStep.c (p_move (y := .val _) rfl (Sees.of rfl) rfl)) rfl rfl rfl rfl) ?_
              refine scons (CStep.step (PStep.c ((by first | exact p_indexR rfl wAll3_isl31 wAll3_siz4 (Sees.of rfl) rfl (Sees.of rfl) (by omega) | exact p_indexRZ rfl wAll3_isl31 wAll3_siz4 (Sees.of rfl) rfl (Sees.of rfl) (by omega) (by omega)))) rfl rfl rfl rfl) ?_
              refine scons (r_storeE rfl wAll3_siz4 rfl rfl rfl (Sees.of rfl) rfl (by omega) (Sees.of rfl) rfl) ?_
              refine snil ?_
              refine f_nil ?_
              show AWs _ _ _ _ _
              refine f_nil ?_
              exact ⟨trivial, rfl, rfl, rfl, rfl, rfl, (by rw [Sp.modsTo_yes hy, Sp.seenL_snoc]; rfl), trivial⟩
        · intro hI
          refine f_nil ?_
          show AWs _ _ _ _ _
          refine f_seq ?_
          refine f_region ?_
          refine scons (CStep.step (PStep.c (p_assign (y := .emp) rfl (Sees.of rfl) rfl)) rfl rfl rfl rfl) ?_
          refine snil ?_
          refine f_seq ?_
          refine f_seq ?_
          refine f_region ?_
          refine scons (CStep.step (PStep.c (p_loadB (y := .row _ _) rfl wAll3_agg31 (Sees.of rfl) rfl rfl rfl rfl)) rfl rfl rfl rfl) ?_
          refine scons (CStep.step (PStep.c (p_lenR rfl wAll3_isl31 (Sees.of rfl) rfl)) rfl rfl rfl rfl) ?_
          refine scons (CStep.step (PStep.c (p_move (y := .val _) rfl (Sees.of rfl) rfl)) rfl rfl rfl rfl) ?_
          refine snil ?_
          refine f_block ?_
          refine f_loop (α := Nat × Nat) (fun (i, u) => i ≤ 2 ^ vars.length) (fun (i, u) => [(69, iv i), (68, iv (2 ^ vars.length : Nat)), (67, .row 30001 0), (3, .ref 10003 0 0), (5, .ref 10005 0 0), (14, .row 20014 u), (20014, .arr u 31 1 24 bools [] (Sp.asg vars.length (Sp.trueTo (Sp.seenL m vars (Sp.modsTo m ls (2 ^ m))) i))), (10003, .box 0 (.ccons (.val (ints vars)) .cnil)), (10005, .box 0 (.ccons (iv 0) (.ccons (iv 0) .cnil))), (30001, .arr 0 4 1 1 D.bool false (Sp.seenL m vars (Sp.modsTo m ls (2 ^ m))))]) (fun (i, u) => 2 ^ vars.length - i) (0, 0) ?_ ?_ ?_
          · exact Nat.zero_le _
          · exact Le.trans (GLe.le (g_adopt (ob := 20014) (k := 14) 31 1 24 bools [] rfl rfl rfl rfl)) (le_ofL ⟨rfl, (by show AV.val (.int .i64 (((Sp.seenL m vars (Sp.modsTo m ls (2 ^ m))).length : Nat) : Int)) = _; rw [Sp.seenL_len]), rfl, rfl, rfl, rfl, rfl, rfl, rfl, rfl, trivial⟩ rfl)
          · rintro ⟨i, u⟩ hi
            have hi : i ≤ 2 ^ vars.length := hi
            have hsl := Sp.seenL_len m vars (Sp.modsTo m ls (2 ^ m))
            have htl := Sp.trueTo_len (Sp.seenL m vars (Sp.modsTo m ls (2 ^ m))) i
            refine f_seq ?_
            refine f_region ?_
            refine scons (CStep.step (PStep.c (p_lss rfl (Sees.of rfl) (Sees.of rfl))) rfl rfl rfl rfl) ?_
            refine snil ?_
            refine f_seq ?_
            refine f_cond rfl ?_ ?_
            · intro hc6
              try simp only [bs] at hc6
              refine f_skip ?_
              refine f_seq ?_
              refine f_block ?_
              refine f_seq ?_
              refine f_region ?_
              refine scons (CStep.step (PStep.c (p_move (y := .val _) rfl (Sees.of rfl) rfl)) rfl rfl rfl rfl) ?_
              refine scons (CStep.step (PStep.c ((by first | exact p_indexR rfl wAll3_isl31 wAll3_siz4 (Sees.of rfl) rfl (Sees.of rfl) (by omega) | exact p_indexRZ rfl wAll3_isl31 wAll3_siz4 (Sees.of rfl) rfl (Sees.of rfl) (by omega) (by omega)))) rfl rfl rfl rfl) ?_
              refine scons (CStep.step (PStep.c (p_loadE rfl wAll3_agg4 (Sees.of rfl) rfl (by omega) (fun _ => rfl))) rfl rfl rfl rfl) ?_
              refine scons (CStep.step (PStep.c (p_assign (y := .val _) rfl (Sees.of rfl) rfl)) rfl rfl rfl rfl) ?_
              refine scons (CStep.step (PStep.c (p_assign (y := .val _) rfl (Sees.of rfl) rfl)) rfl rfl rfl rfl) ?_
              refine snil ?_
              refine f_seq ?_
              refine f_region ?_
              refine scons (CStep.step (PStep.c (p_move (y := .val _) rfl (Sees.of rfl) rfl)) rfl rfl rfl rfl) ?_
              refine snil ?_
              refine f_cond rfl ?_ ?_
              · intro hc7
                try simp only [bs] at hc7
                refine f_region ?_
                refine scons (CStep.step (PStep.c (p_move (y := .row _ _) rfl (Sees.of rfl) rfl)) rfl rfl rfl rfl) ?_
                refine scons (CStep.step (PStep.c (p_loadB (y := .val _) rfl wAll3_agg25 (Sees.of rfl) rfl rfl rfl rfl)) rfl rfl rfl rfl) ?_
                refine scons (CStep.step (PStep.c (p_len rfl wAll3_isl25 (Sees.of rfl))) rfl rfl rfl rfl) ?_
                refine scons (CStep.step (PStep.c (p_move (y := .val _) rfl (Sees.of rfl) rfl)) rfl rfl rfl rfl) ?_
                refine scons (r_callS (q := false) (ob := 10079) false rfl wAll3_isf67 (assignment_spec vars.length i (by omega)) (sa_cons (sh_of (Sees.of rfl) rfl) (sa_cons (sh_of (Sees.of rfl) rfl) (sa_nil))) (.inl rfl) rfl rfl rfl rfl rfl) ?_
                refine scons (LStep.pre (g_freeze (k := 79) (o1 := 10079) rfl rfl rfl rfl) (CStep.step (c_buildSlice (f := bools) (za := []) (xs := [.tmp 79]) rfl rfl wAll3_isl35 wAll3_siz31 wAll3_zer31 rfl rfl ⟨_, _, rfl, (Sees.of rfl), rfl, rfl, rfl⟩) rfl rfl rfl rfl)) ?_
                refine scons (r_appendR (ob := 20014) rfl wAll3_isl35 wAll3_siz31 wAll3_byt31 wAll3_zer31 rfl rfl (Sees.of rfl) rfl (Sees.of rfl) (by simp only [Sp.asg_len, List.length_cons, List.length_nil]; omega) (by simp only [Sp.asg_len, List.length_cons, List.length_nil]; omega) rfl rfl rfl rfl rfl) ?_
                refine scons (CStep.step (PStep.c (p_assign (y := .row _ _) rfl (Sees.of rfl) rfl)) rfl rfl rfl rfl) ?_
                refine snil ?_
                refine f_nil ?_
                show AWs _ _ _ _ _
                refine f_region ?_
                refine scons (CStep.step (PStep.c (p_add rfl (Sees.of rfl) (Sees.of rfl) (by omega))) rfl rfl rfl rfl) ?_
                refine scons (CStep.step (PStep.c (p_move (y := .val _) rfl (Sees.of rfl) rfl)) rfl rfl rfl rfl) ?_
                refine snil ?_
                refine f_back ⟨(i + 1, u + 1), ?_, ?_, le_ofL ⟨rfl, rfl, rfl, rfl, rfl, rfl, (by rw [Sp.trueTo_yes hc7, Sp.asg_app]; rfl), rfl, rfl, rfl, trivial⟩ rfl⟩
                · show i + 1 ≤ 2 ^ vars.length
                  omega
                · show 2 ^ vars.length - (i + 1) < 2 ^ vars.length - i
                  omega
              · intro hc7
                try simp only [bs] at hc7
                refine f_skip ?_
                refine f_nil ?_
                show AWs _ _ _ _ _
                refine f_region ?_
                refine scons (CStep.step (PStep.c (p_add rfl (Sees.of rfl) (Sees.of rfl) (by omega))) rfl rfl rfl rfl) ?_
                refine scons (CStep.step (PStep.c (p_move (y := .val _) rfl (Sees.of rfl) rfl)) rfl rfl rfl rfl) ?_
                refine snil ?_
                refine f_back ⟨(i + 1, u), ?_, ?_, le_ofL ⟨rfl, rfl, rfl, rfl, rfl, rfl, (by rw [Sp.trueTo_no hc7]; rfl), rfl, rfl, rfl, trivial⟩ rfl⟩
                · show i + 1 ≤ 2 ^ vars.length
                  omega
                · show 2 ^ vars.length - (i + 1) < 2 ^ vars.length - i
                  omega
            · intro hc6
              try simp only [bs] at hc6
              refine f_exit ?_
              show AWs _ _ _ _ _
              refine f_seq ?_
              refine f_region ?_
              refine scons (CStep.step (PStep.c (p_move (y := .row _ _) rfl (Sees.of rfl) rfl)) rfl rfl rfl rfl) ?_
              refine scons (CStep.step (PStep.c (p_build rfl wAll3_plc28 wAll3_zer28 (by decide) wAll3_zch28 rfl rfl)) rfl rfl rfl rfl) ?_
              refine scons (CStep.step (PStep.c (p_assign (y := .row _ _) rfl (Sees.of rfl) rfl)) rfl rfl rfl rfl) ?_
              refine scons (r_storeS rfl wAll3_siz28 rfl rfl rfl (Sees.of rfl) rfl (Sees.of rfl) rfl rfl rfl rfl) ?_
              refine snil ?_
              refine f_ret ?_
              refine ends_ret (res_eq (res2 rfl (res_row rfl rfl rfl) (res_cell (by rfl) rfl rfl wAll3_agg28 wAll3_siz28 rfl rfl)) ?_)
              obtain rfl : i = 2 ^ vars.length := by omega
              rw [Sp.onto, if_neg (fun h => h hc1), if_neg (fun h => h hvw)]
              all_goals rfl
        · intro k id S _ _ _ h; cases h

end Go.Um
