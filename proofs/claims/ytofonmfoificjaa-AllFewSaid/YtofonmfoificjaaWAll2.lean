/- Walks of Go functions of this seat, each by its contract. No condition beyond what each theorem says. -/
import Derived.Test.YtofonmfoificjaaWAll
import Derived.Test.YtofonmfoificjaaProg
import Derived.KernelRfl
set_option maxRecDepth 4000
namespace Go.Um
open Go Go.RowKit

theorem wAll2_agg22 : IsAgg Go.Proofs.Try.prog 22 false := by unfold IsAgg; kernel_rfl
theorem wAll2_agg24 : IsAgg Go.Proofs.Try.prog 24 true := by unfold IsAgg; kernel_rfl
theorem wAll2_agg28 : IsAgg Go.Proofs.Try.prog 28 true := by unfold IsAgg; kernel_rfl
theorem wAll2_agg3 : IsAgg Go.Proofs.Try.prog 3 false := by unfold IsAgg; kernel_rfl
theorem wAll2_agg35 : IsAgg Go.Proofs.Try.prog 35 false := by unfold IsAgg; kernel_rfl
theorem wAll2_agg4 : IsAgg Go.Proofs.Try.prog 4 false := by unfold IsAgg; kernel_rfl
theorem wAll2_boo4 : IsBool Go.Proofs.Try.prog 4 := by unfold IsBool; kernel_rfl
theorem wAll2_byt31 : Bytes Go.Proofs.Try.prog 31 24 := by unfold Bytes; kernel_rfl
theorem wAll2_fld24_0 : IsField Go.Proofs.Try.prog 24 0 0 3 := by unfold IsField; kernel_rfl
theorem wAll2_fld24_1 : IsField Go.Proofs.Try.prog 24 1 1 22 := by unfold IsField; kernel_rfl
theorem wAll2_fld28_0 : IsField Go.Proofs.Try.prog 28 0 0 3 := by unfold IsField; kernel_rfl
theorem wAll2_isf124 : IsFn Go.Proofs.Try.prog 124 := by unfold IsFn; kernel_rfl
theorem wAll2_isf62 : IsFn Go.Proofs.Try.prog 62 := by unfold IsFn; kernel_rfl
theorem wAll2_isf66 : IsFn Go.Proofs.Try.prog 66 := by unfold IsFn; kernel_rfl
theorem wAll2_isl31 : IsSlice Go.Proofs.Try.prog 31 4 := by unfold IsSlice; kernel_rfl
theorem wAll2_isl35 : IsSlice Go.Proofs.Try.prog 35 31 := by unfold IsSlice; kernel_rfl
theorem wAll2_mix : (Go.Proofs.Try.prog).follows .mixedOrders = true := by kernel_rfl
theorem wAll2_plc28 : Places Go.Proofs.Try.prog 28 [(0, 1), (1, 1)] := by unfold Places; kernel_rfl
theorem wAll2_siz22 : Size Go.Proofs.Try.prog 22 1 := by unfold Size; kernel_rfl
theorem wAll2_siz24 : Size Go.Proofs.Try.prog 24 2 := by unfold Size; kernel_rfl
theorem wAll2_siz28 : Size Go.Proofs.Try.prog 28 2 := by unfold Size; kernel_rfl
theorem wAll2_siz3 : Size Go.Proofs.Try.prog 3 1 := by unfold Size; kernel_rfl
theorem wAll2_siz31 : Size Go.Proofs.Try.prog 31 1 := by unfold Size; kernel_rfl
theorem wAll2_siz35 : Size Go.Proofs.Try.prog 35 1 := by unfold Size; kernel_rfl
theorem wAll2_siz4 : Size Go.Proofs.Try.prog 4 1 := by unfold Size; kernel_rfl
def wAll2_z28 : D := .cons (.int .i64 0) (.cons (.int .i64 0) (.nil))
theorem wAll2_zch28 : ∀ (ok : Nat → Prop) (w : World), R Go.Proofs.Try.prog wAll2_z28 ok w (Value.cells (.agg #[(.int .i64 0), (.int .i64 0)])).toList := fun _ _ => z_int (z_int (z_nil))
theorem wAll2_zer28 : Zero Go.Proofs.Try.prog 28 (.agg #[(.int .i64 0), (.int .i64 0)]) := by unfold Zero; kernel_rfl
theorem wAll2_zer31 : Zero Go.Proofs.Try.prog 31 (.slice none 0 0) := by unfold Zero; kernel_rfl
theorem wAll2_zer35 : Zero Go.Proofs.Try.prog 35 (.slice none 0 0) := by unfold Zero; kernel_rfl

theorem Models_spec (n : Int) (ls : List (List Int)) (most : Int) :
    Spec Go.Proofs.Try.prog 22 [.val (cnf n ls), iv most] (two (boolss (Sp.models n ls most).1) (fault (Sp.models n ls most).2.1 (Sp.models n ls most).2.2)) := by
  refine spec_of' Go.Proofs.Try.func22 rfl Go.Proofs.Try.ntmps22 rfl ?_
  refine f_seq ?_
  refine f_region ?_
  refine scons (r_box (ob := 10002) rfl (Sees.of rfl) rfl rfl rfl rfl rfl rfl) ?_
  refine scons (r_box (ob := 10003) rfl (Sees.of rfl) rfl rfl rfl rfl rfl rfl) ?_
  refine scons (CStep.step (PStep.c (p_assign (y := .emp) rfl (Sees.of rfl) rfl)) rfl rfl rfl rfl) ?_
  refine scons (r_alloc (ob := 10005) rfl wAll2_zer28 rfl rfl rfl rfl rfl rfl) ?_
  refine snil ?_
  refine f_seq ?_
  refine f_seq ?_
  refine f_region ?_
  refine scons (CStep.step (PStep.c (p_loadBS rfl wAll2_agg24 wAll2_siz24 (Sees.of rfl) rfl rfl rfl)) rfl rfl rfl rfl) ?_
  refine scons (CStep.step (c_call rfl wAll2_isf62 ⟨_, _, rfl, (Sees.of rfl), rfl, rfl⟩ (allCheck_spec n ls)) rfl rfl rfl rfl) ?_
  refine scons (r_alloc (ob := 10006) rfl wAll2_zer28 rfl rfl rfl rfl rfl rfl) ?_
  refine scons (r_storeS rfl wAll2_siz28 rfl rfl rfl (Sees.of rfl) rfl (Sees.of rfl) rfl rfl rfl rfl) ?_
  refine snil ?_
  refine f_seq ?_
  refine f_region ?_
  refine scons (CStep.step (PStep.c (p_fieldRef rfl wAll2_fld28_0 wAll2_siz3 rfl (Sees.of rfl) rfl)) rfl rfl rfl rfl) ?_
  refine scons (CStep.step (PStep.c (p_loadB (y := .val _) rfl wAll2_agg3 (Sees.of rfl) rfl rfl rfl rfl)) rfl rfl rfl rfl) ?_
  refine scons (CStep.step (PStep.c (p_neq rfl (Sees.of rfl) (Sees.of rfl))) rfl rfl rfl rfl) ?_
  refine snil ?_
  refine f_cond rfl ?_ ?_
  · intro hc1
    try simp only [bs] at hc1
    refine f_seq ?_
    refine f_draw wAll2_mix (by kernel_rfl) ?_
    refine dcons (CStep.step (PStep.c (p_loadBS rfl wAll2_agg28 wAll2_siz28 (Sees.of rfl) rfl rfl rfl)) rfl rfl rfl rfl) ?_
    refine dcons (CStep.step (PStep.c (p_assign (y := .emp) rfl (Sees.of rfl) rfl)) rfl rfl rfl rfl) ?_
    refine dcons (r_storeS rfl wAll2_siz28 rfl rfl rfl (Sees.of rfl) rfl (Sees.of rfl) rfl rfl rfl rfl) ?_
    refine dnil (by kernel_rfl) ?_
    refine f_ret ?_
    refine ends_ret (res_eq (res2 rfl (res_tmp rfl (Sees.emp rfl 1 bools [])) (res_cell (by rfl) rfl rfl wAll2_agg28 wAll2_siz28 rfl rfl)) ?_)
    rw [Sp.models, if_pos hc1]
    all_goals rfl
  · intro hc1
    try simp only [bs] at hc1
    obtain ⟨m, rfl⟩ : ∃ m : Nat, n = (m : Int) := ⟨n.toNat, by have := Sp.tryW_ok hc1; omega⟩
    have hko := Sp.tryW_ok hc1
    have hG := Sp.check_good hko.1 (m := m) rfl
    have hp16 := Sp.pow16 (n := m) (by omega)
    refine f_skip ?_
    refine f_seq ?_
    refine f_seq ?_
    refine f_region ?_
    refine scons (CStep.step (PStep.c (p_loadB (y := .val _) rfl wAll2_agg3 (Sees.of rfl) rfl rfl rfl rfl)) rfl rfl rfl rfl) ?_
    refine scons (CStep.step (PStep.c (p_lss rfl (Sees.of rfl) (Sees.of rfl))) rfl rfl rfl rfl) ?_
    refine scons (CStep.step (PStep.c (p_move (y := .val _) rfl (Sees.of rfl) rfl)) rfl rfl rfl rfl) ?_
    refine scons (CStep.guard rfl rfl rfl (fun hg0 => PStep.c (p_loadB (y := .val _) rfl wAll2_agg3 (Sees.of rfl) rfl rfl rfl rfl)) rfl rfl rfl rfl rfl) ?_
    refine scons (CStep.guard rfl rfl rfl (fun hg0 => PStep.c (p_gtr rfl (Sees.gv' rfl hg0) (Sees.of rfl))) rfl rfl rfl rfl rfl) ?_
    refine scons (CStep.step (PStep.c (p_or rfl (Sees.of rfl) (Sees.of rfl) (fun h => Sees.gv' rfl (beq_of_eq h)))) rfl rfl rfl rfl) ?_
    refine snil ?_
    refine f_cond rfl ?_ ?_
    · intro hc2
      try simp only [bs] at hc2
      refine f_seq ?_
      refine f_region ?_
      refine scons (CStep.step (PStep.c (p_build rfl wAll2_plc28 wAll2_zer28 (by decide) wAll2_zch28 ⟨_, _, _, rfl, rfl, rfl, (Sees.of rfl), ⟨_, _, _, rfl, rfl, rfl, (Sees.of rfl), rfl⟩⟩ rfl)) rfl rfl rfl rfl) ?_
      refine scons (CStep.step (PStep.c (p_assign (y := .emp) rfl (Sees.of rfl) rfl)) rfl rfl rfl rfl) ?_
      refine scons (r_storeS rfl wAll2_siz28 rfl rfl rfl (Sees.of rfl) rfl (Sees.of rfl) rfl rfl rfl rfl) ?_
      refine snil ?_
      refine f_ret ?_
      refine ends_ret (res_eq (res2 rfl (res_tmp rfl (Sees.emp rfl 1 bools [])) (res_cell (by rfl) rfl rfl wAll2_agg28 wAll2_siz28 rfl rfl)) ?_)
      rw [Sp.models, if_neg (fun h => h hc1), if_pos (by omega)]
      all_goals rfl
    · intro hc2
      try simp only [bs] at hc2
      refine f_skip ?_
      refine f_seq ?_
      refine f_region ?_
      refine scons (r_alloc (ob := 10007) rfl wAll2_zer35 rfl rfl rfl rfl rfl rfl) ?_
      refine snil ?_
      refine f_seq ?_
      refine f_seq ?_
      refine f_region ?_
      refine scons (CStep.step (PStep.c (p_loadB (y := .val _) rfl wAll2_agg3 (Sees.of rfl) rfl rfl rfl rfl)) rfl rfl rfl rfl) ?_
      refine scons (CStep.step (PStep.c (p_eql rfl (Sees.of rfl) (Sees.of rfl))) rfl rfl rfl rfl) ?_
      refine snil ?_
      refine f_cond rfl ?_ ?_
      · intro hc3
        try simp only [bs] at hc3
        refine f_seq ?_
        refine f_region ?_
        refine scons (CStep.step (PStep.c (p_loadB (y := .emp) rfl wAll2_agg35 (Sees.of rfl) rfl rfl rfl rfl)) rfl rfl rfl rfl) ?_
        refine scons (CStep.step (PStep.c (p_build rfl wAll2_plc28 wAll2_zer28 (by decide) wAll2_zch28 rfl rfl)) rfl rfl rfl rfl) ?_
        refine scons (CStep.step (PStep.c (p_assign (y := .emp) rfl (Sees.of rfl) rfl)) rfl rfl rfl rfl) ?_
        refine scons (r_storeS rfl wAll2_siz28 rfl rfl rfl (Sees.of rfl) rfl (Sees.of rfl) rfl rfl rfl rfl) ?_
        refine snil ?_
        refine f_ret ?_
        refine ends_ret (res_eq (res2 rfl (res_tmp rfl (Sees.emp rfl 1 bools [])) (res_cell (by rfl) rfl rfl wAll2_agg28 wAll2_siz28 rfl rfl)) ?_)
        rw [Sp.models, if_neg (fun h => h hc1), if_neg (by omega), hc3]
        all_goals rfl
      · intro hc3
        try simp only [bs] at hc3
        refine f_skip ?_
        refine f_seq ?_
        refine f_seq ?_
        refine f_region ?_
        refine scons (CStep.step (PStep.c (p_fieldRef rfl wAll2_fld24_1 wAll2_siz22 rfl (Sees.of rfl) rfl)) rfl rfl rfl rfl) ?_
        refine scons (CStep.step (PStep.c (p_loadB (y := .val _) rfl wAll2_agg22 (Sees.of rfl) rfl rfl rfl rfl)) rfl rfl rfl rfl) ?_
        refine scons (CStep.step (PStep.c (p_fieldRef rfl wAll2_fld24_0 wAll2_siz3 rfl (Sees.of rfl) rfl)) rfl rfl rfl rfl) ?_
        refine scons (CStep.step (PStep.c (p_loadB (y := .val _) rfl wAll2_agg3 (Sees.of rfl) rfl rfl rfl rfl)) rfl rfl rfl rfl) ?_
        refine scons (CStep.step (c_callA rfl wAll2_isf66 (each_spec m ls) (sa_cons (sh_of (Sees.of rfl) rfl) (sa_cons (sh_of (Sees.of rfl) rfl) (sa_nil))) rfl) rfl rfl rfl rfl) ?_
        refine snil ?_
        refine f_block ?_
        refine f_range [(30, .clo 124 (.ccons (.ptr (di m)) (.ccons (.ptr (intss ls)) .cnil))), (3, .ref 10003 0 0), (5, .ref 10005 0 0), (7, .ref 10007 0 0)] (fun k => [(10003, .box 0 (.ccons (iv most) .cnil)), (10005, .box 0 (.ccons (iv 0) (.ccons (iv 0) .cnil))), (10007, .box 0 (.ccons (.row 30001 (Sp.modsTo m ls k).length) .cnil)), (30001, .arr (Sp.modsTo m ls k).length 31 1 24 bools [] (Sp.asg m (Sp.modsTo m ls k)))]) (fun k => some (0, [(10003, .box 0 (.ccons (iv most) .cnil)), (10005, .box 0 (.ccons (iv 0) (.ccons (iv 0) .cnil))), (10007, .box 0 (.ccons (.row 30001 (Sp.modsTo m ls (k + 1)).length) .cnil)), (30001, .arr (Sp.modsTo m ls (k + 1)).length 31 1 24 bools [] (Sp.asg m (Sp.modsTo m ls (k + 1))))])) (fun k => ((Sp.modsTo m ls k).length : Int) < most) (fun k => ((Sp.modsTo m ls (k + 1)).length : Int) = most) ((by show (0 : Int) < most; omega)) (fun k _ hy h => by show ((Sp.modsTo m ls (k + 1)).length : Int) < most; rw [Sp.modsTo_no hy]; exact h) rfl (each1_iter m (by omega) ls hG) wAll2_isf124 rfl (Le.trans (GLe.le (g_adoptB (ob := 10007) (off := 0) (o1 := 30001) 31 1 24 bools [] rfl rfl rfl rfl rfl rfl rfl)) (le_ofL ⟨rfl, rfl, rfl, rfl, rfl, rfl, rfl, rfl, trivial⟩ rfl)) rfl rfl (fun k hk hy => ⟨rfl, fun _ _ h => by cases h; rfl⟩) (fun _ => rfl) (fun k hk hy => by show _ = _; rw [Sp.modsTo_no hy]) ?_ ?_ ?_
        · intro k hk hy hI
          have hml := Sp.modsTo_len m k ls
          have hI : ((Sp.modsTo m ls k).length : Int) < most := hI
          refine f_region ?_
          refine scons (CStep.step (PStep.c (p_assign (y := .val _) rfl (Sees.of rfl) rfl)) rfl rfl rfl rfl) ?_
          refine snil ?_
          refine f_nil ?_
          show AWs _ _ _ _ _
          refine f_block ?_
          refine f_seq ?_
          refine f_region ?_
          refine scons (CStep.step (PStep.c (p_loadB (y := .row _ _) rfl wAll2_agg35 (Sees.of rfl) rfl rfl rfl rfl)) rfl rfl rfl rfl) ?_
          refine scons (CStep.step (PStep.c (p_move (y := .val _) rfl (Sees.of rfl) rfl)) rfl rfl rfl rfl) ?_
          refine scons (CStep.step (c_buildSlice (f := bools) (za := []) (xs := [.tmp 33]) rfl rfl wAll2_isl35 wAll2_siz31 wAll2_zer31 rfl rfl ⟨_, _, rfl, (Sees.of rfl), rfl, rfl, rfl⟩) rfl rfl rfl rfl) ?_
          refine scons (r_appendR (ob := 30001) rfl wAll2_isl35 wAll2_siz31 wAll2_byt31 wAll2_zer31 rfl rfl (Sees.of rfl) rfl (Sees.of rfl) (by simp only [Sp.asg_len, List.length_cons, List.length_nil]; omega) (by simp only [Sp.asg_len, List.length_cons, List.length_nil]; omega) rfl rfl rfl rfl rfl) ?_
          refine scons (r_storeR rfl wAll2_siz35 rfl rfl rfl (Sees.of rfl) rfl rfl (Sees.of rfl) rfl) ?_
          refine snil ?_
          refine f_seq ?_
          refine f_region ?_
          refine scons (CStep.step (PStep.c (p_loadB (y := .row _ _) rfl wAll2_agg35 (Sees.of rfl) rfl rfl rfl rfl)) rfl rfl rfl rfl) ?_
          refine scons (CStep.step (PStep.c (p_lenR rfl wAll2_isl35 (Sees.of rfl) rfl)) rfl rfl rfl rfl) ?_
          refine scons (CStep.step (PStep.c (p_loadB (y := .val _) rfl wAll2_agg3 (Sees.of rfl) rfl rfl rfl rfl)) rfl rfl rfl rfl) ?_
          refine scons (CStep.step (PStep.c (p_eql rfl (Sees.of rfl) (Sees.of rfl))) rfl rfl rfl rfl) ?_
          refine snil ?_
          refine f_cond rfl ?_ ?_
          · intro hc4
            try simp only [bs] at hc4
            refine f_exit ?_
            exact ⟨rfl, (by have e : ((Sp.modsTo m ls (k + 1)).length : Int) = ((Sp.modsTo m ls k).length : Int) + 1 := (by rw [Sp.modsTo_yes hy]; simp); simp only [List.length_append, Sp.asg_len, List.length_cons, List.length_nil] at hc4; show ((Sp.modsTo m ls (k + 1)).length : Int) = most; omega), rfl, rfl, rfl, (by rw [Sp.len_yes hy]; rfl), (by rw [Sp.len_yes hy, Sp.asg_yes hy]; rfl), trivial⟩
          · intro hc4
            try simp only [bs] at hc4
            refine f_skip ?_
            refine f_nil ?_
            show AWs _ _ _ _ _
            refine f_nil ?_
            exact ⟨(by have e : ((Sp.modsTo m ls (k + 1)).length : Int) = ((Sp.modsTo m ls k).length : Int) + 1 := (by rw [Sp.modsTo_yes hy]; simp); simp only [List.length_append, Sp.asg_len, List.length_cons, List.length_nil] at hc4; show ((Sp.modsTo m ls (k + 1)).length : Int) < most; omega), rfl, rfl, rfl, (by rw [Sp.len_yes hy]; rfl), (by rw [Sp.len_yes hy, Sp.asg_yes hy]; rfl), trivial⟩
        · intro hI
          refine f_nil ?_
          show AWs _ _ _ _ _
          refine f_seq ?_
          refine f_region ?_
          refine scons (CStep.step (PStep.c (p_loadB (y := .row _ _) rfl wAll2_agg35 (Sees.of rfl) rfl rfl rfl rfl)) rfl rfl rfl rfl) ?_
          refine scons (CStep.step (PStep.c (p_build rfl wAll2_plc28 wAll2_zer28 (by decide) wAll2_zch28 rfl rfl)) rfl rfl rfl rfl) ?_
          refine scons (CStep.step (PStep.c (p_assign (y := .row _ _) rfl (Sees.of rfl) rfl)) rfl rfl rfl rfl) ?_
          refine scons (r_storeS rfl wAll2_siz28 rfl rfl rfl (Sees.of rfl) rfl (Sees.of rfl) rfl rfl rfl rfl) ?_
          refine snil ?_
          refine f_ret ?_
          refine ends_ret (res_eq (res2 rfl (res_row rfl rfl rfl) (res_cell (by rfl) rfl rfl wAll2_agg28 wAll2_siz28 rfl rfl)) ?_)
          have hI : ((Sp.modsTo m ls (2 ^ m)).length : Int) < most := hI
          rw [Sp.models, if_neg (fun h => h hc1), if_neg (by omega), List.take_of_length_le (by show (Sp.modsTo m ls (2 ^ m)).length ≤ _; omega)]
          all_goals rfl
        · intro k id S hk hy hI h
          cases h
          show AWs _ _ _ _ _
          refine f_seq ?_
          refine f_region ?_
          refine scons (CStep.step (PStep.c (p_loadB (y := .row _ _) rfl wAll2_agg35 (Sees.of rfl) rfl rfl rfl rfl)) rfl rfl rfl rfl) ?_
          refine scons (CStep.step (PStep.c (p_build rfl wAll2_plc28 wAll2_zer28 (by decide) wAll2_zch28 rfl rfl)) rfl rfl rfl rfl) ?_
          refine scons (CStep.step (PStep.c (p_assign (y := .row _ _) rfl (Sees.of rfl) rfl)) rfl rfl rfl rfl) ?_
          refine scons (r_storeS rfl wAll2_siz28 rfl rfl rfl (Sees.of rfl) rfl (Sees.of rfl) rfl rfl rfl rfl) ?_
          refine snil ?_
          refine f_ret ?_
          refine ends_ret (res_eq (res2 rfl (res_row rfl rfl rfl) (res_cell (by rfl) rfl rfl wAll2_agg28 wAll2_siz28 rfl rfl)) ?_)
          have hI : ((Sp.modsTo m ls (k + 1)).length : Int) = most := hI
          rw [Sp.models, if_neg (fun h => h hc1), if_neg (by omega), show most.toNat = (Sp.modsTo m ls (k + 1)).length by omega]
          show _ = two (boolss (Sp.asg m ((Sp.mods m ls).take (Sp.modsTo m ls (k + 1)).length))) _
          rw [Sp.modsTo_take (by omega)]
          all_goals rfl

theorem Bools_spec (a b : List Bool) :
    Spec Go.Proofs.Try.prog 24 [.val (bools a), .val (bools b)] (D.bool (decide (a = b))) := by
  refine spec_of' Go.Proofs.Try.func24 rfl Go.Proofs.Try.ntmps24 rfl ?_
  refine f_seq ?_
  refine f_wf (.tmp 0) rfl (fun hwf => ?_) (by simp)
  have hlen : a.length ≤ 140737488355328 := hwf.1
  clear hwf
  refine f_region ?_
  refine scons (CStep.step (PStep.c (p_assign (y := .val _) rfl (Sees.of rfl) rfl)) rfl rfl rfl rfl) ?_
  refine snil ?_
  refine f_seq ?_
  refine f_seq ?_
  refine f_region ?_
  refine scons (CStep.step (PStep.c (p_move (y := .val _) rfl (Sees.of rfl) rfl)) rfl rfl rfl rfl) ?_
  refine scons (CStep.step (PStep.c (p_len rfl wAll2_isl31 (Sees.of rfl))) rfl rfl rfl rfl) ?_
  refine scons (CStep.step (PStep.c (p_move (y := .val _) rfl (Sees.of rfl) rfl)) rfl rfl rfl rfl) ?_
  refine scons (CStep.step (PStep.c (p_len rfl wAll2_isl31 (Sees.of rfl))) rfl rfl rfl rfl) ?_
  refine scons (CStep.step (PStep.c (p_neq rfl (Sees.of rfl) (Sees.of rfl))) rfl rfl rfl rfl) ?_
  refine snil ?_
  refine f_cond rfl ?_ ?_
  · intro hc1
    try simp only [bs] at hc1
    refine f_seq ?_
    refine f_region ?_
    refine scons (CStep.step (PStep.c (p_assign (y := .val _) rfl (Sees.of rfl) rfl)) rfl rfl rfl rfl) ?_
    refine snil ?_
    refine f_ret ?_
    refine ends_ret (res_eq (res1 rfl (res_tmp rfl (Sees.of rfl))) ?_)
    rw [decide_eq_false (fun h => hc1 (by rw [h]))]
  · intro hc1
    try simp only [bs] at hc1
    refine f_skip ?_
    refine f_seq ?_
    refine f_seq ?_
    refine f_region ?_
    refine scons (CStep.step (PStep.c (p_assign (y := .val _) rfl (Sees.of rfl) rfl)) rfl rfl rfl rfl) ?_
    refine snil ?_
    refine f_block ?_
    refine f_loop (α := Nat) (fun i => i ≤ a.length ∧ ∀ j, j < i → a.getD j false = b.getD j false) (fun i => [(5, iv i), (0, .val (bools a)), (1, .val (bools b))]) (fun i => a.length - i) 0 ?_ ?_ ?_
    · exact ⟨Nat.zero_le _, fun j hj => absurd hj (Nat.not_lt_zero _)⟩
    · exact le_ofL ⟨rfl, rfl, rfl, trivial⟩ rfl
    · rintro i ⟨hi, hp⟩
      refine f_seq ?_
      refine f_seq ?_
      refine f_region ?_
      refine scons (CStep.step (PStep.c (p_move (y := .val _) rfl (Sees.of rfl) rfl)) rfl rfl rfl rfl) ?_
      refine scons (CStep.step (PStep.c (p_move (y := .val _) rfl (Sees.of rfl) rfl)) rfl rfl rfl rfl) ?_
      refine scons (CStep.step (PStep.c (p_len rfl wAll2_isl31 (Sees.of rfl))) rfl rfl rfl rfl) ?_
      refine scons (CStep.step (PStep.c (p_lss rfl (Sees.of rfl) (Sees.of rfl))) rfl rfl rfl rfl) ?_
      refine snil ?_
      refine f_cond rfl ?_ ?_
      · intro hc2
        try simp only [bs] at hc2
        refine f_skip ?_
        refine f_seq ?_
        refine f_block ?_
        refine f_seq ?_
        refine f_draw wAll2_mix (by kernel_rfl) ?_
        refine dcons (CStep.step (PStep.c (p_move (y := .val _) rfl (Sees.of rfl) rfl)) rfl rfl rfl rfl) ?_
        refine dcons (CStep.step (PStep.c (p_move (y := .val _) rfl (Sees.of rfl) rfl)) rfl rfl rfl rfl) ?_
        refine dcons (CStep.step (PStep.c ((by first | exact p_indexN rfl wAll2_isl31 wAll2_siz4 (Sees.of rfl) (Sees.of rfl) (by omega) | exact p_index rfl wAll2_isl31 wAll2_siz4 (Sees.of rfl) (Sees.of rfl) (by omega) (by omega)))) rfl rfl rfl rfl) ?_
        refine dcons (CStep.step (PStep.c (p_load rfl wAll2_agg4 (Sees.of rfl) rfl)) rfl rfl rfl rfl) ?_
        refine dcons (CStep.step (PStep.c (p_move (y := .val _) rfl (Sees.of rfl) rfl)) rfl rfl rfl rfl) ?_
        refine dcons (CStep.step (PStep.c (p_move (y := .val _) rfl (Sees.of rfl) rfl)) rfl rfl rfl rfl) ?_
        refine dcons (CStep.step (PStep.c ((by first | exact p_indexN rfl wAll2_isl31 wAll2_siz4 (Sees.of rfl) (Sees.of rfl) (by omega) | exact p_index rfl wAll2_isl31 wAll2_siz4 (Sees.of rfl) (Sees.of rfl) (by omega) (by omega)))) rfl rfl rfl rfl) ?_
        refine dcons (CStep.step (PStep.c (p_load rfl wAll2_agg4 (Sees.of rfl) rfl)) rfl rfl rfl rfl) ?_
        refine dcons (CStep.step (PStep.c (p_neqB rfl wAll2_boo4 (Sees.of rfl) (Sees.of rfl))) rfl rfl rfl rfl) ?_
        refine dnil (by kernel_rfl) ?_
        refine f_cond rfl ?_ ?_
        · intro hc3
          try simp only [bs] at hc3
          refine f_seq ?_
          refine f_region ?_
          refine scons (CStep.step (PStep.c (p_assign (y := .val _) rfl (Sees.of rfl) rfl)) rfl rfl rfl rfl) ?_
          refine snil ?_
          refine f_ret ?_
          refine ends_ret (res_eq (res1 rfl (res_tmp rfl (Sees.of rfl))) ?_)
          rw [decide_eq_false (fun h => by rw [h] at hc3; simp at hc3)]
        · intro hc3
          try simp only [bs] at hc3
          refine f_skip ?_
          refine f_nil ?_
          show AWs _ _ _ _ _
          refine f_region ?_
          refine scons (CStep.step (PStep.c (p_move (y := .val _) rfl (Sees.of rfl) rfl)) rfl rfl rfl rfl) ?_
          refine scons (CStep.step (PStep.c (p_add rfl (Sees.of rfl) (Sees.of rfl) (by omega))) rfl rfl rfl rfl) ?_
          refine scons (CStep.step (PStep.c (p_assign (y := .val _) rfl (Sees.of rfl) rfl)) rfl rfl rfl rfl) ?_
          refine snil ?_
          refine f_back ⟨i + 1, ?_, ?_, le_ofL ⟨rfl, rfl, rfl, trivial⟩ rfl⟩
          · refine ⟨by omega, fun j hj => ?_⟩
            by_cases e : j = i
            · rw [e]; exact hc3
            · exact hp j (by omega)
          · omega
      · intro hc2
        try simp only [bs] at hc2
        refine f_exit ?_
        show AWs _ _ _ _ _
        refine f_seq ?_
        refine f_region ?_
        refine scons (CStep.step (PStep.c (p_assign (y := .val _) rfl (Sees.of rfl) rfl)) rfl rfl rfl rfl) ?_
        refine snil ?_
        refine f_ret ?_
        refine ends_ret (res_eq (res1 rfl (res_tmp rfl (Sees.of rfl))) ?_)
        rw [decide_eq_true (Sp.bools_eq (by omega) (by omega) hp)]

end Go.Um
