/- Walks of Go functions of this seat, each by its contract. No condition beyond what each theorem says. -/
import Derived.Test.YtpjenbbalengoaaWPar2
import Derived.Test.YtpjenbbalengoaaWOrd
import Derived.Test.YtpjenbbalengoaaLay2
import Derived.Test.YtpjenbbalengoaaSort3
import Derived.Test.YtpjenbbalengoaaSpT
import Derived.Test.YtpjenbbalengoaaSv2
import Derived.Test.YtpjenbbalengoaaWk
import Derived.Test.YtpjenbbalengoaaProg
import Derived.KernelRfl
set_option maxRecDepth 4000
namespace Go.Um
open Go Go.RowKit

theorem wSol_agg26 : IsAgg Go.Proofs.Try.prog 26 true := by unfold IsAgg; kernel_rfl
theorem wSol_agg3 : IsAgg Go.Proofs.Try.prog 3 false := by unfold IsAgg; kernel_rfl
theorem wSol_agg33 : IsAgg Go.Proofs.Try.prog 33 false := by unfold IsAgg; kernel_rfl
theorem wSol_agg35 : IsAgg Go.Proofs.Try.prog 35 true := by unfold IsAgg; kernel_rfl
theorem wSol_agg4 : IsAgg Go.Proofs.Try.prog 4 false := by unfold IsAgg; kernel_rfl
theorem wSol_byt35 : Bytes Go.Proofs.Try.prog 35 32 := by unfold Bytes; kernel_rfl
theorem wSol_byt4 : Bytes Go.Proofs.Try.prog 4 1 := by unfold Bytes; kernel_rfl
theorem wSol_fld26_0 : IsField Go.Proofs.Try.prog 26 0 0 3 := by unfold IsField; kernel_rfl
theorem wSol_fld35_0 : IsField Go.Proofs.Try.prog 35 0 0 33 := by unfold IsField; kernel_rfl
theorem wSol_fld35_1 : IsField Go.Proofs.Try.prog 35 1 1 4 := by unfold IsField; kernel_rfl
theorem wSol_isf49 : IsFn Go.Proofs.Try.prog 49 := by unfold IsFn; kernel_rfl
theorem wSol_isf50 : IsFn Go.Proofs.Try.prog 50 := by unfold IsFn; kernel_rfl
theorem wSol_isf51 : IsFn Go.Proofs.Try.prog 51 := by unfold IsFn; kernel_rfl
theorem wSol_isf52 : IsFn Go.Proofs.Try.prog 52 := by unfold IsFn; kernel_rfl
theorem wSol_isf53 : IsFn Go.Proofs.Try.prog 53 := by unfold IsFn; kernel_rfl
theorem wSol_isf55 : IsFn Go.Proofs.Try.prog 55 := by unfold IsFn; kernel_rfl
theorem wSol_isl22 : IsSlice Go.Proofs.Try.prog 22 35 := by unfold IsSlice; kernel_rfl
theorem wSol_isl24 : IsSlice Go.Proofs.Try.prog 24 4 := by unfold IsSlice; kernel_rfl
theorem wSol_isl33 : IsSlice Go.Proofs.Try.prog 33 3 := by unfold IsSlice; kernel_rfl
theorem wSol_mix : (Go.Proofs.Try.prog).follows .mixedOrders = true := by kernel_rfl
theorem wSol_plc26 : Places Go.Proofs.Try.prog 26 [(0, 1), (1, 1)] := by unfold Places; kernel_rfl
theorem wSol_plc35 : Places Go.Proofs.Try.prog 35 [(0, 1), (1, 1)] := by unfold Places; kernel_rfl
theorem wSol_siz26 : Size Go.Proofs.Try.prog 26 2 := by unfold Size; kernel_rfl
theorem wSol_siz3 : Size Go.Proofs.Try.prog 3 1 := by unfold Size; kernel_rfl
theorem wSol_siz33 : Size Go.Proofs.Try.prog 33 1 := by unfold Size; kernel_rfl
theorem wSol_siz35 : Size Go.Proofs.Try.prog 35 2 := by unfold Size; kernel_rfl
theorem wSol_siz4 : Size Go.Proofs.Try.prog 4 1 := by unfold Size; kernel_rfl
def wSol_z26 : D := .cons (.int .i64 0) (.cons (.int .i64 0) (.nil))
theorem wSol_zch26 : ∀ (ok : Nat → Prop) (w : World), R Go.Proofs.Try.prog wSol_z26 ok w (Value.cells (.agg #[(.int .i64 0), (.int .i64 0)])).toList := fun _ _ => z_int (z_int (z_nil))
def wSol_z35 : D := .cons (ints []) (.cons (.bool false) (.nil))
theorem wSol_zch35 : ∀ (ok : Nat → Prop) (w : World), R Go.Proofs.Try.prog wSol_z35 ok w (Value.cells (.agg #[(.slice none 0 0), (.bool false)])).toList := fun _ _ => z_list (z_bool (z_nil))
theorem wSol_zer26 : Zero Go.Proofs.Try.prog 26 (.agg #[(.int .i64 0), (.int .i64 0)]) := by unfold Zero; kernel_rfl
theorem wSol_zer35 : Zero Go.Proofs.Try.prog 35 (.agg #[(.slice none 0 0), (.bool false)]) := by unfold Zero; kernel_rfl
theorem wSol_zer4 : Zero Go.Proofs.Try.prog 4 (.bool false) := by unfold Zero; kernel_rfl

theorem solve1_spec (a b : List Int × Bool) (ha : a.1 ≠ []) (hb : b.1 ≠ []) :
    Spec Go.Proofs.Try.prog 54 [.val (dPar a), .val (dPar b)] (di (Sp.cmpI (Sp.lead a) (Sp.lead b))) := by
  refine spec_of' Go.Proofs.Try.func54 rfl Go.Proofs.Try.ntmps54 rfl ?_
  refine f_seq ?_
  have ha1 := List.length_pos_iff.2 ha
  have hb1 := List.length_pos_iff.2 hb
  refine f_region ?_
  refine scons (r_box (ob := 10002) rfl (Sees.of rfl) rfl rfl rfl rfl rfl rfl) ?_
  refine scons (r_box (ob := 10003) rfl (Sees.of rfl) rfl rfl rfl rfl rfl rfl) ?_
  refine scons (CStep.step (PStep.c (p_assign (y := .val _) rfl (Sees.of rfl) rfl)) rfl rfl rfl rfl) ?_
  refine snil ?_
  refine f_seq ?_
  refine f_draw wSol_mix (by kernel_rfl) ?_
  refine dcons (CStep.step (PStep.c (p_fieldRef rfl wSol_fld35_0 wSol_siz33 rfl (Sees.of rfl) rfl)) rfl rfl rfl rfl) ?_
  refine dcons (CStep.step (PStep.c (p_loadB (y := .val _) rfl wSol_agg33 (Sees.of rfl) rfl rfl rfl rfl)) rfl rfl rfl rfl) ?_
  refine dcons (CStep.step (PStep.c ((by first | exact p_indexN rfl wSol_isl33 wSol_siz3 (Sees.of rfl) (Sees.of rfl) (by omega) | exact p_index rfl wSol_isl33 wSol_siz3 (Sees.of rfl) (Sees.of rfl) (by omega) (by omega)))) rfl rfl rfl rfl) ?_
  refine dcons (CStep.step (PStep.c (p_load rfl wSol_agg3 (Sees.of rfl) rfl)) rfl rfl rfl rfl) ?_
  refine dcons (CStep.step (PStep.c (p_fieldRef rfl wSol_fld35_0 wSol_siz33 rfl (Sees.of rfl) rfl)) rfl rfl rfl rfl) ?_
  refine dcons (CStep.step (PStep.c (p_loadB (y := .val _) rfl wSol_agg33 (Sees.of rfl) rfl rfl rfl rfl)) rfl rfl rfl rfl) ?_
  refine dcons (CStep.step (PStep.c ((by first | exact p_indexN rfl wSol_isl33 wSol_siz3 (Sees.of rfl) (Sees.of rfl) (by omega) | exact p_index rfl wSol_isl33 wSol_siz3 (Sees.of rfl) (Sees.of rfl) (by omega) (by omega)))) rfl rfl rfl rfl) ?_
  refine dcons (CStep.step (PStep.c (p_load rfl wSol_agg3 (Sees.of rfl) rfl)) rfl rfl rfl rfl) ?_
  refine dcons (CStep.step (c_call rfl wSol_isf55 ⟨_, _, rfl, (Sees.of rfl), rfl, ⟨_, _, rfl, (Sees.of rfl), rfl, rfl⟩⟩ (cmpI_spec _ _)) rfl rfl rfl rfl) ?_
  refine dcons (CStep.step (PStep.c (p_assign (y := .val _) rfl (Sees.of rfl) rfl)) rfl rfl rfl rfl) ?_
  refine dnil (by kernel_rfl) ?_
  refine f_ret ?_
  refine ends_ret (res_eq (res1 rfl (res_tmp rfl (Sees.of rfl))) ?_)
  rfl

set_option maxHeartbeats 2000000 in
theorem solve_spec (n : Int) (l : List (List Int × Bool)) :
    Spec Go.Proofs.Try.prog 15 [iv n, .val (pars l)] (four (di (Sp.solveOf n l).1) (pars (Sp.solveOf n l).2.1) (bools (Sp.solveOf n l).2.2.1) (fault (Sp.solveOf n l).2.2.2.1 (Sp.solveOf n l).2.2.2.2)) := by
  refine spec_of' Go.Proofs.Try.func15 rfl Go.Proofs.Try.ntmps15 rfl ?_
  refine f_seq ?_
  refine f_region ?_
  refine scons (CStep.step (PStep.c (p_assign (y := .val _) rfl (Sees.of rfl) rfl)) rfl rfl rfl rfl) ?_
  refine scons (CStep.step (PStep.c (p_assign (y := .emp) rfl (Sees.of rfl) rfl)) rfl rfl rfl rfl) ?_
  refine scons (CStep.step (PStep.c (p_assign (y := .emp) rfl (Sees.of rfl) rfl)) rfl rfl rfl rfl) ?_
  refine scons (r_alloc (ob := 10007) rfl wSol_zer26 rfl rfl rfl rfl rfl rfl) ?_
  refine snil ?_
  refine f_seq ?_
  refine f_seq ?_
  refine f_region ?_
  refine scons (CStep.step (PStep.c (p_move (y := .val _) rfl (Sees.of rfl) rfl)) rfl rfl rfl rfl) ?_
  refine scons (CStep.step (PStep.c (p_move (y := .val _) rfl (Sees.of rfl) rfl)) rfl rfl rfl rfl) ?_
  refine scons (CStep.step (c_call rfl wSol_isf49 ⟨_, _, rfl, (Sees.of rfl), rfl, ⟨_, _, rfl, (Sees.of rfl), rfl, rfl⟩⟩ (parCheck_spec n l)) rfl rfl rfl rfl) ?_
  refine scons (r_alloc (ob := 10008) rfl wSol_zer26 rfl rfl rfl rfl rfl rfl) ?_
  refine scons (r_storeS rfl wSol_siz26 rfl rfl rfl (Sees.of rfl) rfl (Sees.of rfl) rfl rfl rfl rfl) ?_
  refine snil ?_
  refine f_seq ?_
  refine f_region ?_
  refine scons (CStep.step (PStep.c (p_fieldRef rfl wSol_fld26_0 wSol_siz3 rfl (Sees.of rfl) rfl)) rfl rfl rfl rfl) ?_
  refine scons (CStep.step (PStep.c (p_loadB (y := .val _) rfl wSol_agg3 (Sees.of rfl) rfl rfl rfl rfl)) rfl rfl rfl rfl) ?_
  refine scons (CStep.step (PStep.c (p_neq rfl (Sees.of rfl) (Sees.of rfl))) rfl rfl rfl rfl) ?_
  refine snil ?_
  refine f_cond rfl ?_ ?_
  · intro hc1
    try simp only [bs] at hc1
    refine f_seq ?_
    refine f_draw wSol_mix (by kernel_rfl) ?_
    refine dcons (CStep.step (PStep.c (p_loadBS rfl wSol_agg26 wSol_siz26 (Sees.of rfl) rfl rfl rfl)) rfl rfl rfl rfl) ?_
    refine dcons (CStep.step (PStep.c (p_assign (y := .val _) rfl (Sees.of rfl) rfl)) rfl rfl rfl rfl) ?_
    refine dcons (CStep.step (PStep.c (p_assign (y := .emp) rfl (Sees.of rfl) rfl)) rfl rfl rfl rfl) ?_
    refine dcons (CStep.step (PStep.c (p_assign (y := .emp) rfl (Sees.of rfl) rfl)) rfl rfl rfl rfl) ?_
    refine dcons (r_storeS rfl wSol_siz26 rfl rfl rfl (Sees.of rfl) rfl (Sees.of rfl) rfl rfl rfl rfl) ?_
    refine dnil (by kernel_rfl) ?_
    refine f_ret ?_
    refine ends_ret (res_eq (res4 rfl (res_tmp rfl (Sees.of rfl)) (res_tmp rfl (Sees.emp rfl 2 dPar ([], false))) (res_tmp rfl (Sees.emp rfl 1 D.bool false)) (res_cell (by rfl) rfl rfl wSol_agg26 wSol_siz26 rfl rfl)) ?_)
    rw [Sp.solveOf_err hc1]
    all_goals rfl
  · intro hc1
    try simp only [bs] at hc1
    have hok := Sp.par_ok hc1
    have hll := hok.2.1
    have hinc : Sp.Incs n l := hok.2.2.1
    obtain ⟨m, rfl⟩ : ∃ m : Nat, n = (m : Int) := ⟨n.toNat, by omega⟩
    refine f_skip ?_
    refine f_seq ?_
    refine f_region ?_
    refine scons (CStep.step (PStep.c (p_assign (y := .emp) rfl (Sees.of rfl) rfl)) rfl rfl rfl rfl) ?_
    refine snil ?_
    refine f_seq ?_
    refine f_seq ?_
    refine f_region ?_
    refine scons (CStep.step (PStep.c (p_move (y := .val _) rfl (Sees.of rfl) rfl)) rfl rfl rfl rfl) ?_
    refine scons (CStep.step (PStep.c (p_len rfl wSol_isl22 (Sees.of rfl))) rfl rfl rfl rfl) ?_
    refine scons (CStep.step (PStep.c (p_move (y := .val _) rfl (Sees.of rfl) rfl)) rfl rfl rfl rfl) ?_
    refine snil ?_
    refine f_block ?_
    refine f_loop (α := Nat × Nat) (fun (i, u) => i ≤ l.length ∧ ∀ j, j < i → ¬ Sp.bad l j) (fun (i, u) => [(28, iv i), (26, .val (pars l)), (27, iv l.length), (0, iv m), (7, .ref 10007 0 0), (10007, .box 0 (.ccons (iv 0) (.ccons (iv 0) .cnil))), (9, .row 30000 u), (30000, .arr u 35 2 32 dPar ([], false) (Sp.rowsTo l i))]) (fun (i, u) => l.length - i) (0, 0) ?_ ?_ ?_
    · exact ⟨Nat.zero_le _, fun j hj => absurd hj (Nat.not_lt_zero _)⟩
    · exact Le.trans (GLe.le (g_adopt (ob := 30000) (k := 9) 35 2 32 dPar ([], false) rfl rfl rfl rfl)) (le_ofL ⟨rfl, rfl, rfl, rfl, rfl, rfl, rfl, rfl, trivial⟩ rfl)
    · rintro ⟨i, u⟩ hi
      obtain ⟨hi, hnb⟩ : i ≤ l.length ∧ ∀ j, j < i → ¬ Sp.bad l j := hi
      have hred := Sp.rowsTo_inv hinc i hi hnb
      refine f_seq ?_
      refine f_region ?_
      refine scons (CStep.step (PStep.c (p_lss rfl (Sees.of rfl) (Sees.of rfl))) rfl rfl rfl rfl) ?_
      refine snil ?_
      refine f_seq ?_
      refine f_cond rfl ?_ ?_
      · intro hc2
        try simp only [bs] at hc2
        refine f_skip ?_
        refine f_seq ?_
        refine f_block ?_
        refine f_seq ?_
        refine f_region ?_
        refine scons (CStep.step (PStep.c ((by first | exact p_indexN rfl wSol_isl22 wSol_siz35 (Sees.of rfl) (Sees.of rfl) (by omega) | exact p_index rfl wSol_isl22 wSol_siz35 (Sees.of rfl) (Sees.of rfl) (by omega) (by omega)))) rfl rfl rfl rfl) ?_
        refine scons (CStep.step (PStep.c (p_loadS rfl wSol_agg35 wSol_siz35 (Sees.of rfl) ⟨rfl, fun h => R_len rfl h⟩)) rfl rfl rfl rfl) ?_
        refine scons (r_alloc (ob := 10011) rfl wSol_zer35 rfl rfl rfl rfl rfl rfl) ?_
        refine scons (r_storeS rfl wSol_siz35 rfl rfl rfl (Sees.of rfl) rfl (Sees.of rfl) rfl rfl rfl rfl) ?_
        refine snil ?_
        refine f_seq ?_
        refine f_region ?_
        refine scons (CStep.step (PStep.c (p_fieldRef rfl wSol_fld35_0 wSol_siz33 rfl (Sees.of rfl) rfl)) rfl rfl rfl rfl) ?_
        refine scons (CStep.step (PStep.c (p_loadB (y := .val _) rfl wSol_agg33 (Sees.of rfl) rfl rfl rfl rfl)) rfl rfl rfl rfl) ?_
        refine scons (r_callS (q := false) (ob := 10034) 0 rfl wSol_isf50 (cloneI_spec (l.getD i ([], false)).1 (by have := Sp.inc_len hok.1 (hinc _ (Sp.getD_mem l i ([], false) (by omega))); omega)) (sa_cons (sh_of (Sees.of rfl) rfl) (sa_nil)) (.inl rfl) rfl rfl rfl rfl rfl) ?_
        refine scons (CStep.step (PStep.c (p_fieldRef rfl wSol_fld35_0 wSol_siz33 rfl (Sees.of rfl) rfl)) rfl rfl rfl rfl) ?_
        refine scons (LStep.pre (g_freeze (k := 34) (o1 := 10034) rfl rfl rfl rfl) (r_store rfl wSol_siz33 rfl rfl rfl (Sees.of rfl) rfl rfl (Sees.of rfl) (one_val rfl))) ?_
        refine snil ?_
        refine f_seq ?_
        refine f_seq ?_
        refine f_region ?_
        refine scons (CStep.step (PStep.c (p_move (y := .row _ _) rfl (Sees.of rfl) rfl)) rfl rfl rfl rfl) ?_
        refine scons (CStep.step (PStep.c (p_lenR rfl wSol_isl22 (Sees.of rfl) rfl)) rfl rfl rfl rfl) ?_
        refine scons (CStep.step (PStep.c (p_move (y := .val _) rfl (Sees.of rfl) rfl)) rfl rfl rfl rfl) ?_
        refine snil ?_
        refine f_block ?_
        refine f_loop (α := Nat) (fun j => j ≤ (Sp.rowsTo l i).length) (fun j => [(38, iv j), (36, .row 30000 u), (37, iv (Sp.rowsTo l i).length), (11, .ref 10011 0 0), (10011, .box 0 (.ccons (.val (ints (Sp.redTo (Sp.rowsTo l i) (l.getD i ([], false)) j).1)) (.ccons (bv (Sp.redTo (Sp.rowsTo l i) (l.getD i ([], false)) j).2) .cnil))), (28, iv i), (26, .val (pars l)), (27, iv l.length), (0, iv m), (7, .ref 10007 0 0), (10007, .box 0 (.ccons (iv 0) (.ccons (iv 0) .cnil))), (9, .row 30000 u), (30000, .arr u 35 2 32 dPar ([], false) (Sp.rowsTo l i))]) (fun j => (Sp.rowsTo l i).length - j) 0 ?_ ?_ ?_
        · exact Nat.zero_le _
        · exact le_ofL ⟨rfl, rfl, rfl, rfl, rfl, rfl, rfl, rfl, rfl, rfl, rfl, rfl, rfl, trivial⟩ rfl
        · rintro j hj
          have hp0 := hinc _ (Sp.getD_mem l i ([], false) (by omega))
          refine f_seq ?_
          refine f_region ?_
          refine scons (CStep.step (PStep.c (p_lss rfl (Sees.of rfl) (Sees.of rfl))) rfl rfl rfl rfl) ?_
          refine snil ?_
          refine f_seq ?_
          refine f_cond rfl ?_ ?_
          · intro hc3
            try simp only [bs] at hc3
            refine f_skip ?_
            refine f_seq ?_
            refine f_block ?_
            refine f_seq ?_
            refine f_region ?_
            refine scons (CStep.step (PStep.c ((by first | exact p_indexR rfl wSol_isl22 wSol_siz35 (Sees.of rfl) rfl (Sees.of rfl) (by omega) | exact p_indexRZ rfl wSol_isl22 wSol_siz35 (Sees.of rfl) rfl (Sees.of rfl) (by omega) (by omega)))) rfl rfl rfl rfl) ?_
            refine scons (CStep.step (PStep.c (p_loadES rfl wSol_agg35 wSol_siz35 (Sees.of rfl) rfl (by omega) (fun _ => rfl))) rfl rfl rfl rfl) ?_
            refine scons (r_alloc (ob := 10013) rfl wSol_zer35 rfl rfl rfl rfl rfl rfl) ?_
            refine scons (r_storeS rfl wSol_siz35 rfl rfl rfl (Sees.of rfl) rfl (Sees.of rfl) rfl rfl rfl rfl) ?_
            refine snil ?_
            refine f_seq ?_
            have hrj := Sp.getD_mem (Sp.rowsTo l i) j ([], false) (by omega)
            have hjp := List.length_pos_iff.2 (hred.1.ne _ hrj)
            have hq1 := Sp.inc_len hok.1 (Sp.redTo_span hred.1.inc hp0 j (by omega)).1
            have hq2 := Sp.inc_len hok.1 (hred.1.inc _ hrj)
            refine f_draw wSol_mix (by kernel_rfl) ?_
            refine dcons (CStep.step (PStep.c (p_fieldRef rfl wSol_fld35_0 wSol_siz33 rfl (Sees.of rfl) rfl)) rfl rfl rfl rfl) ?_
            refine dcons (CStep.step (PStep.c (p_loadB (y := .val _) rfl wSol_agg33 (Sees.of rfl) rfl rfl rfl rfl)) rfl rfl rfl rfl) ?_
            refine dcons (CStep.step (PStep.c (p_fieldRef rfl wSol_fld35_0 wSol_siz33 rfl (Sees.of rfl) rfl)) rfl rfl rfl rfl) ?_
            refine dcons (CStep.step (PStep.c (p_loadB (y := .val _) rfl wSol_agg33 (Sees.of rfl) rfl rfl rfl rfl)) rfl rfl rfl rfl) ?_
            refine dcons (CStep.step (PStep.c ((by first | exact p_indexN rfl wSol_isl33 wSol_siz3 (Sees.of rfl) (Sees.of rfl) (by omega) | exact p_index rfl wSol_isl33 wSol_siz3 (Sees.of rfl) (Sees.of rfl) (by omega) (by omega)))) rfl rfl rfl rfl) ?_
            refine dcons (CStep.step (PStep.c (p_load rfl wSol_agg3 (Sees.of rfl) rfl)) rfl rfl rfl rfl) ?_
            refine dcons (CStep.step (c_call rfl wSol_isf51 ⟨_, _, rfl, (Sees.of rfl), rfl, ⟨_, _, rfl, (Sees.of rfl), rfl, rfl⟩⟩ (hasI_spec _ _)) rfl rfl rfl rfl) ?_
            refine dnil (by kernel_rfl) ?_
            refine f_cond rfl ?_ ?_
            · intro hc4
              try simp only [bs] at hc4
              refine f_region ?_
              refine scons (CStep.step (PStep.c (p_loadBS rfl wSol_agg35 wSol_siz35 (Sees.of rfl) rfl rfl rfl)) rfl rfl rfl rfl) ?_
              refine scons (CStep.step (PStep.c (p_loadBS rfl wSol_agg35 wSol_siz35 (Sees.of rfl) rfl rfl rfl)) rfl rfl rfl rfl) ?_
              refine scons (CStep.step (c_call rfl wSol_isf52 ⟨_, _, rfl, (Sees.of rfl), rfl, ⟨_, _, rfl, (Sees.of rfl), rfl, rfl⟩⟩ (parsum_spec (Sp.redTo (Sp.rowsTo l i) (l.getD i ([], false)) j) ((Sp.rowsTo l i).getD j ([], false)) (by omega) (by omega))) rfl rfl rfl rfl) ?_
              refine scons (r_storeS rfl wSol_siz35 rfl rfl rfl (Sees.of rfl) rfl (Sees.of rfl) rfl rfl rfl rfl) ?_
              refine snil ?_
              refine f_nil ?_
              show AWs _ _ _ _ _
              refine f_region ?_
              refine scons (CStep.step (PStep.c (p_add rfl (Sees.of rfl) (Sees.of rfl) (by omega))) rfl rfl rfl rfl) ?_
              refine scons (CStep.step (PStep.c (p_move (y := .val _) rfl (Sees.of rfl) rfl)) rfl rfl rfl rfl) ?_
              refine snil ?_
              refine f_back ⟨j + 1, ?_, ?_, le_ofL ⟨rfl, rfl, rfl, rfl, (by rw [Sp.redTo_yes hc4]; rfl), rfl, rfl, rfl, rfl, rfl, rfl, rfl, rfl, trivial⟩ rfl⟩
              · omega
              · omega
            · intro hc4
              try simp only [bs] at hc4
              refine f_skip ?_
              refine f_nil ?_
              show AWs _ _ _ _ _
              refine f_region ?_
              refine scons (CStep.step (PStep.c (p_add rfl (Sees.of rfl) (Sees.of rfl) (by omega))) rfl rfl rfl rfl) ?_
              refine scons (CStep.step (PStep.c (p_move (y := .val _) rfl (Sees.of rfl) rfl)) rfl rfl rfl rfl) ?_
              refine snil ?_
              refine f_back ⟨j + 1, ?_, ?_, le_ofL ⟨rfl, rfl, rfl, rfl, (by rw [Sp.redTo_no hc4]; rfl), rfl, rfl, rfl, rfl, rfl, rfl, rfl, rfl, trivial⟩ rfl⟩
              · omega
              · omega
          · intro hc3
            try simp only [bs] at hc3
            refine f_exit ?_
            show AWs _ _ _ _ _
            refine f_seq ?_
            refine f_seq ?_
            obtain rfl : j = (Sp.rowsTo l i).length := by omega
            have hnew := Sp.redTo_span hred.1.inc hp0 (Sp.rowsTo l i).length (Nat.le_refl _)
            have hnl := Sp.inc_len hok.1 hnew.1
            refine f_region ?_
            refine scons (CStep.step (PStep.c (p_fieldRef rfl wSol_fld35_0 wSol_siz33 rfl (Sees.of rfl) rfl)) rfl rfl rfl rfl) ?_
            refine scons (CStep.step (PStep.c (p_loadB (y := .val _) rfl wSol_agg33 (Sees.of rfl) rfl rfl rfl rfl)) rfl rfl rfl rfl) ?_
            refine scons (CStep.step (PStep.c (p_len rfl wSol_isl33 (Sees.of rfl))) rfl rfl rfl rfl) ?_
            refine scons (CStep.step (PStep.c (p_eql rfl (Sees.of rfl) (Sees.of rfl))) rfl rfl rfl rfl) ?_
            refine snil ?_
            refine f_cond rfl ?_ ?_
            · intro hc5
              try simp only [bs] at hc5
              refine f_seq ?_
              refine f_seq ?_
              refine f_region ?_
              refine scons (CStep.step (PStep.c (p_fieldRef rfl wSol_fld35_1 wSol_siz4 rfl (Sees.of rfl) rfl)) rfl rfl rfl rfl) ?_
              refine scons (CStep.step (PStep.c (p_loadB (y := .val _) rfl wSol_agg4 (Sees.of rfl) rfl rfl rfl rfl)) rfl rfl rfl rfl) ?_
              refine snil ?_
              refine f_cond rfl ?_ ?_
              · intro hc6
                try simp only [bs] at hc6
                refine f_seq ?_
                refine f_region ?_
                refine scons (CStep.step (PStep.c (p_build rfl wSol_plc35 wSol_zer35 (by decide) wSol_zch35 ⟨_, _, _, rfl, rfl, rfl, (Sees.of rfl), rfl⟩ rfl)) rfl rfl rfl rfl) ?_
                refine scons (CStep.step (c_buildSlice (f := dPar) (za := ([], false)) (xs := [.tmp 59]) rfl rfl wSol_isl22 wSol_siz35 wSol_zer35 rfl rfl ⟨(_, _), _, rfl, (Sees.of rfl), rfl, rfl, rfl⟩) rfl rfl rfl rfl) ?_
                refine scons (CStep.step (PStep.c (p_build rfl wSol_plc26 wSol_zer26 (by decide) wSol_zch26 rfl rfl)) rfl rfl rfl rfl) ?_
                refine scons (CStep.step (PStep.c (p_assign (y := .val _) rfl (Sees.of rfl) rfl)) rfl rfl rfl rfl) ?_
                refine scons (CStep.step (PStep.c (p_assign (y := .val _) rfl (Sees.of rfl) rfl)) rfl rfl rfl rfl) ?_
                refine scons (CStep.step (PStep.c (p_assign (y := .emp) rfl (Sees.of rfl) rfl)) rfl rfl rfl rfl) ?_
                refine scons (r_storeS rfl wSol_siz26 rfl rfl rfl (Sees.of rfl) rfl (Sees.of rfl) rfl rfl rfl rfl) ?_
                refine snil ?_
                refine f_ret ?_
                have hbad : Sp.bad l i := Prod.ext (List.eq_nil_of_length_eq_zero (by omega)) hc6
                refine ends_ret (res_eq (res4 rfl (res_tmp rfl (Sees.of rfl)) (res_tmp rfl (Sees.of rfl)) (res_tmp rfl (Sees.emp rfl 1 D.bool false)) (res_cell (by rfl) rfl rfl wSol_agg26 wSol_siz26 rfl rfl)) ?_)
                rw [Sp.solveOf_no hc1 (by omega) hnb hbad]
                all_goals rfl
              · intro hc6
                try simp only [bs] at hc6
                refine f_skip ?_
                refine f_exit ?_
                show AWs _ _ _ _ _
                refine f_region ?_
                refine scons (CStep.step (PStep.c (p_add rfl (Sees.of rfl) (Sees.of rfl) (by omega))) rfl rfl rfl rfl) ?_
                refine scons (CStep.step (PStep.c (p_move (y := .val _) rfl (Sees.of rfl) rfl)) rfl rfl rfl rfl) ?_
                refine snil ?_
                have hne : (Sp.newP l i).1 = [] := List.eq_nil_of_length_eq_zero (by show (Sp.redTo (Sp.rowsTo l i) (l.getD i ([], false)) (Sp.rowsTo l i).length).1.length = 0; omega)
                refine f_back ⟨(i + 1, u), ?_, ?_, le_ofL ⟨rfl, rfl, rfl, rfl, rfl, rfl, rfl, (by rw [Sp.rowsTo_none hne]; rfl), trivial⟩ rfl⟩
                · refine ⟨by omega, fun j hj => ?_⟩
                  by_cases e : j = i
                  · rw [e]; exact fun h => by rw [show Sp.redTo (Sp.rowsTo l i) (l.getD i ([], false)) (Sp.rowsTo l i).length = ([], true) from h] at hc6; cases hc6
                  · exact hnb j (by omega)
                · show l.length - (i + 1) < l.length - i
                  omega
            · intro hc5
              try simp only [bs] at hc5
              refine f_skip ?_
              refine f_seq ?_
              refine f_seq ?_
              have hnn : (Sp.newP l i).1 ≠ [] := fun h => hc5 (by rw [show (Sp.redTo (Sp.rowsTo l i) (l.getD i ([], false)) (Sp.rowsTo l i).length).1 = [] from h]; rfl)
              have hnp := List.length_pos_iff.2 hnn
              have hnl2 : (Sp.newP l i).1.length ≤ 120 := hnl
              refine f_region ?_
              refine scons (CStep.step (PStep.c (p_move (y := .row _ _) rfl (Sees.of rfl) rfl)) rfl rfl rfl rfl) ?_
              refine scons (CStep.step (PStep.c (p_lenR rfl wSol_isl22 (Sees.of rfl) rfl)) rfl rfl rfl rfl) ?_
              refine scons (CStep.step (PStep.c (p_move (y := .val _) rfl (Sees.of rfl) rfl)) rfl rfl rfl rfl) ?_
              refine snil ?_
              refine f_block ?_
              refine f_loop (α := Nat) (fun j => j ≤ (Sp.rowsTo l i).length) (fun j => [(64, iv j), (62, .row 30000 u), (63, iv (Sp.rowsTo l i).length), (11, .ref 10011 0 0), (10011, .box 0 (.ccons (.val (ints (Sp.newP l i).1)) (.ccons (bv (Sp.newP l i).2) .cnil))), (28, iv i), (26, .val (pars l)), (27, iv l.length), (0, iv m), (7, .ref 10007 0 0), (10007, .box 0 (.ccons (iv 0) (.ccons (iv 0) .cnil))), (9, .row 30000 u), (30000, .arr u 35 2 32 dPar ([], false) (Sp.upTo (Sp.clrV (Sp.lead (Sp.newP l i)) (Sp.newP l i)) (Sp.rowsTo l i) j))]) (fun j => (Sp.rowsTo l i).length - j) 0 ?_ ?_ ?_
              · exact Nat.zero_le _
              · exact le_ofL ⟨rfl, rfl, rfl, rfl, rfl, rfl, rfl, rfl, rfl, rfl, rfl, rfl, (by rw [Sp.upTo_zero]; rfl), trivial⟩ rfl
              · rintro j hj
                have hul := Sp.upTo_len (Sp.clrV (Sp.lead (Sp.newP l i)) (Sp.newP l i)) (Sp.rowsTo l i) j
                refine f_seq ?_
                refine f_region ?_
                refine scons (CStep.step (PStep.c (p_lss rfl (Sees.of rfl) (Sees.of rfl))) rfl rfl rfl rfl) ?_
                refine snil ?_
                refine f_seq ?_
                refine f_cond rfl ?_ ?_
                · intro hc7
                  try simp only [bs] at hc7
                  refine f_skip ?_
                  refine f_seq ?_
                  refine f_block ?_
                  refine f_seq ?_
                  have hup := Sp.upTo_at (Sp.clrV (Sp.lead (Sp.newP l i)) (Sp.newP l i)) (Sp.rowsTo l i) (i := j) (by omega) ([], false)
                  have hrj := Sp.inc_len hok.1 (hred.1.inc _ (Sp.getD_mem (Sp.rowsTo l i) j ([], false) (by omega)))
                  refine f_region ?_
                  refine scons (CStep.step (PStep.c (p_move (y := .val _) rfl (Sees.of rfl) rfl)) rfl rfl rfl rfl) ?_
                  refine scons (CStep.step (PStep.c ((by first | exact p_indexR rfl wSol_isl22 wSol_siz35 (Sees.of rfl) rfl (Sees.of rfl) (by omega) | exact p_indexRZ rfl wSol_isl22 wSol_siz35 (Sees.of rfl) rfl (Sees.of rfl) (by omega) (by omega)))) rfl rfl rfl rfl) ?_
                  refine scons (CStep.step (PStep.c (p_loadES rfl wSol_agg35 wSol_siz35 (Sees.of rfl) rfl (by omega) (fun _ => rfl))) rfl rfl rfl rfl) ?_
                  refine scons (r_alloc (ob := 10015) rfl wSol_zer35 rfl rfl rfl rfl rfl rfl) ?_
                  refine scons (CStep.step (PStep.c (p_assign (y := .val _) rfl (Sees.of rfl) rfl)) rfl rfl rfl rfl) ?_
                  refine scons (r_storeS rfl wSol_siz35 rfl rfl rfl (Sees.of rfl) rfl (Sees.of rfl) rfl rfl rfl rfl) ?_
                  refine snil ?_
                  refine f_seq ?_
                  refine f_draw wSol_mix (by kernel_rfl) ?_
                  refine dcons (CStep.step (PStep.c (p_fieldRef rfl wSol_fld35_0 wSol_siz33 rfl (Sees.of rfl) rfl)) rfl rfl rfl rfl) ?_
                  refine dcons (CStep.step (PStep.c (p_loadB (y := .val _) rfl wSol_agg33 (Sees.of rfl) rfl rfl rfl rfl)) rfl rfl rfl rfl) ?_
                  refine dcons (CStep.step (PStep.c (p_fieldRef rfl wSol_fld35_0 wSol_siz33 rfl (Sees.of rfl) rfl)) rfl rfl rfl rfl) ?_
                  refine dcons (CStep.step (PStep.c (p_loadB (y := .val _) rfl wSol_agg33 (Sees.of rfl) rfl rfl rfl rfl)) rfl rfl rfl rfl) ?_
                  refine dcons (CStep.step (PStep.c ((by first | exact p_indexN rfl wSol_isl33 wSol_siz3 (Sees.of rfl) (Sees.of rfl) (by omega) | exact p_index rfl wSol_isl33 wSol_siz3 (Sees.of rfl) (Sees.of rfl) (by omega) (by omega)))) rfl rfl rfl rfl) ?_
                  refine dcons (CStep.step (PStep.c (p_load rfl wSol_agg3 (Sees.of rfl) rfl)) rfl rfl rfl rfl) ?_
                  refine dcons (CStep.step (c_call rfl wSol_isf51 ⟨_, _, rfl, (Sees.of rfl), rfl, ⟨_, _, rfl, (Sees.of rfl), rfl, rfl⟩⟩ (hasI_spec _ _)) rfl rfl rfl rfl) ?_
                  refine dnil (by kernel_rfl) ?_
                  refine f_cond rfl ?_ ?_
                  · intro hc8
                    try simp only [bs] at hc8
                    refine f_region ?_
                    refine scons (CStep.step (PStep.c (p_move (y := .row _ _) rfl (Sees.of rfl) rfl)) rfl rfl rfl rfl) ?_
                    refine scons (CStep.step (PStep.c (p_move (y := .val _) rfl (Sees.of rfl) rfl)) rfl rfl rfl rfl) ?_
                    refine scons (CStep.step (PStep.c (p_loadBS rfl wSol_agg35 wSol_siz35 (Sees.of rfl) rfl rfl rfl)) rfl rfl rfl rfl) ?_
                    refine scons (CStep.step (PStep.c (p_loadBS rfl wSol_agg35 wSol_siz35 (Sees.of rfl) rfl rfl rfl)) rfl rfl rfl rfl) ?_
                    refine scons (CStep.step (c_call rfl wSol_isf52 ⟨_, _, rfl, (Sees.of rfl), rfl, ⟨_, _, rfl, (Sees.of rfl), rfl, rfl⟩⟩ (parsum_spec (Sp.upTo (Sp.clrV (Sp.lead (Sp.newP l i)) (Sp.newP l i)) (Sp.rowsTo l i) j |>.getD j ([], false)) (Sp.newP l i) (by rw [hup]; omega) (by omega))) rfl rfl rfl rfl) ?_
                    refine scons (CStep.step (PStep.c ((by first | exact p_indexR rfl wSol_isl22 wSol_siz35 (Sees.of rfl) rfl (Sees.of rfl) (by omega) | exact p_indexRZ rfl wSol_isl22 wSol_siz35 (Sees.of rfl) rfl (Sees.of rfl) (by omega) (by omega)))) rfl rfl rfl rfl) ?_
                    refine scons (r_storeEA rfl wSol_siz35 rfl rfl rfl (Sees.of rfl) rfl (by omega) (Sees.of rfl) rfl rfl rfl) ?_
                    refine snil ?_
                    refine f_nil ?_
                    show AWs _ _ _ _ _
                    refine f_region ?_
                    refine scons (CStep.step (PStep.c (p_add rfl (Sees.of rfl) (Sees.of rfl) (by omega))) rfl rfl rfl rfl) ?_
                    refine scons (CStep.step (PStep.c (p_move (y := .val _) rfl (Sees.of rfl) rfl)) rfl rfl rfl rfl) ?_
                    refine snil ?_
                    refine f_back ⟨j + 1, ?_, ?_, le_ofL ⟨rfl, rfl, rfl, rfl, rfl, rfl, rfl, rfl, rfl, rfl, rfl, rfl, (by rw [← Sp.upTo_set (Sp.clrV (Sp.lead (Sp.newP l i)) (Sp.newP l i)) (Sp.rowsTo l i) (by omega) ([], false), Sp.clrV_yes (by rw [← hup]; exact hc8), ← hup]; rfl), trivial⟩ rfl⟩
                    · omega
                    · omega
                  · intro hc8
                    try simp only [bs] at hc8
                    refine f_skip ?_
                    refine f_nil ?_
                    show AWs _ _ _ _ _
                    refine f_region ?_
                    refine scons (CStep.step (PStep.c (p_add rfl (Sees.of rfl) (Sees.of rfl) (by omega))) rfl rfl rfl rfl) ?_
                    refine scons (CStep.step (PStep.c (p_move (y := .val _) rfl (Sees.of rfl) rfl)) rfl rfl rfl rfl) ?_
                    refine snil ?_
                    refine f_back ⟨j + 1, ?_, ?_, le_ofL ⟨rfl, rfl, rfl, rfl, rfl, rfl, rfl, rfl, rfl, rfl, rfl, rfl, (by rw [← Sp.upTo_same (Sp.clrV (Sp.lead (Sp.newP l i)) (Sp.newP l i)) (Sp.rowsTo l i) (by omega) ([], false) (Sp.clrV_no (by rw [← hup]; exact hc8))]; rfl), trivial⟩ rfl⟩
                    · omega
                    · omega
                · intro hc7
                  try simp only [bs] at hc7
                  refine f_exit ?_
                  show AWs _ _ _ _ _
                  have hjR : j = (Sp.rowsTo l i).length := by omega
                  refine f_region ?_
                  refine scons (CStep.step (PStep.c (p_move (y := .row _ _) rfl (Sees.of rfl) rfl)) rfl rfl rfl rfl) ?_
                  refine scons (CStep.step (PStep.c (p_loadBS rfl wSol_agg35 wSol_siz35 (Sees.of rfl) rfl rfl rfl)) rfl rfl rfl rfl) ?_
                  refine scons (CStep.step (c_buildSlice (f := dPar) (za := ([], false)) (xs := [.tmp 84]) rfl rfl wSol_isl22 wSol_siz35 wSol_zer35 rfl rfl ⟨(_, _), _, rfl, (Sees.of rfl), rfl, rfl, rfl⟩) rfl rfl rfl rfl) ?_
                  refine scons (r_appendR (ob := 30000) rfl wSol_isl22 wSol_siz35 wSol_byt35 wSol_zer35 rfl rfl (Sees.of rfl) rfl (Sees.of rfl) (by simp only [List.length_cons, List.length_nil, List.length_append]; omega) (by simp only [List.length_cons, List.length_nil, List.length_append]; omega) rfl rfl rfl rfl rfl) ?_
                  refine scons (CStep.step (PStep.c (p_assign (y := .row _ _) rfl (Sees.of rfl) rfl)) rfl rfl rfl rfl) ?_
                  refine snil ?_
                  refine f_nil ?_
                  show AWs _ _ _ _ _
                  refine f_region ?_
                  refine scons (CStep.step (PStep.c (p_add rfl (Sees.of rfl) (Sees.of rfl) (by omega))) rfl rfl rfl rfl) ?_
                  refine scons (CStep.step (PStep.c (p_move (y := .val _) rfl (Sees.of rfl) rfl)) rfl rfl rfl rfl) ?_
                  refine snil ?_
                  refine f_back ⟨(i + 1, u + 1), ?_, ?_, le_ofL ⟨rfl, rfl, rfl, rfl, rfl, rfl, rfl, (by show AV.arr _ _ _ _ _ _ (Sp.upTo (Sp.clrV (Sp.lead (Sp.newP l i)) (Sp.newP l i)) (Sp.rowsTo l i) j ++ [(Sp.newP l i)]) = _; rw [hjR, Sp.upTo_end, Sp.rowsTo_more hnn]; rfl), trivial⟩ rfl⟩
                  · refine ⟨by omega, fun j hj => ?_⟩
                    by_cases e : j = i
                    · rw [e]; exact fun h => hnn (congrArg Prod.fst h)
                    · exact hnb j (by omega)
                  · show l.length - (i + 1) < l.length - i
                    omega
      · intro hc2
        try simp only [bs] at hc2
        refine f_exit ?_
        show AWs _ _ _ _ _
        refine f_seq ?_
        obtain rfl : i = l.length := by omega
        have hrl := hred.2.2
        refine f_region ?_
        refine scons (CStep.step (PStep.c (p_move (y := .row _ _) rfl (Sees.of rfl) rfl)) rfl rfl rfl rfl) ?_
        refine scons (r_callB rfl wSol_isf53 (sortK_spec Go.Proofs.Try.laySFP dPar ([], false) 2 (by decide) (run_isAgg wSol_agg35) (run_sizeOf wSol_siz35) (fun p => p.1 ≠ []) (fun x y => Sp.cmpI (Sp.lead x) (Sp.lead y)) (fun _ => rfl) (swo_of (fun x y => Sp.lead x < Sp.lead y) (fun x y => by unfold Go.Proofs.ltOf; rw [decide_eq_true_iff]; exact Sp.cmpI_abs.1) (fun x => by omega) (fun x y z => by omega) (fun x y z => by omega)) (F := 54) (by unfold IsFn; kernel_rfl) (fun x y hx hy => solve1_spec x y hx hy) u 35 32 (Sp.rowsTo l l.length) (Sp.sortL (Sp.rowsTo l l.length)) hred.1.ne (fun ys hp hs => Sp.sortL_uniq hred.1 ys hp hs)) ⟨_, _, rfl, (Sees.of rfl), ⟨_, _, rfl, (Sees.of rfl), rfl⟩⟩ ⟨rfl, trivial⟩ rfl rfl rfl rfl rfl rfl) ?_
        refine snil ?_
        refine f_seq ?_
        refine f_region ?_
        refine scons (CStep.step (PStep.c (p_move (y := .val _) rfl (Sees.of rfl) rfl)) rfl rfl rfl rfl) ?_
        refine scons (r_make (m := m) (f := D.bool) (z := false) (ob := 10091) rfl wSol_isl24 wSol_siz4 wSol_byt4 wSol_zer4 rfl rfl rfl (fun _ _ => rfl) (Sees.of rfl) (by omega) (by omega) rfl rfl rfl rfl rfl) ?_
        refine scons (CStep.step (PStep.c (p_assign (y := .row _ _) rfl (Sees.of rfl) rfl)) rfl rfl rfl rfl) ?_
        refine snil ?_
        refine f_seq ?_
        refine f_seq ?_
        refine f_region ?_
        refine scons (CStep.step (PStep.c (p_move (y := .row _ _) rfl (Sees.of rfl) rfl)) rfl rfl rfl rfl) ?_
        refine scons (CStep.step (PStep.c (p_lenR rfl wSol_isl22 (Sees.of rfl) rfl)) rfl rfl rfl rfl) ?_
        refine scons (CStep.step (PStep.c (p_move (y := .val _) rfl (Sees.of rfl) rfl)) rfl rfl rfl rfl) ?_
        refine snil ?_
        refine f_block ?_
        refine f_loop (α := Nat) (fun j => j ≤ (Sp.sortL (Sp.rowsTo l l.length)).length) (fun j => [(94, iv j), (92, .row 30000 u), (93, iv (Sp.sortL (Sp.rowsTo l l.length)).length), (16, .row 10091 0), (10091, .arr 0 4 1 1 D.bool false (Sp.asgTo m (Sp.sortL (Sp.rowsTo l l.length)) j)), (0, iv m), (7, .ref 10007 0 0), (10007, .box 0 (.ccons (iv 0) (.ccons (iv 0) .cnil))), (9, .row 30000 u), (30000, .arr u 35 2 32 dPar ([], false) (Sp.sortL (Sp.rowsTo l l.length)))]) (fun j => (Sp.sortL (Sp.rowsTo l l.length)).length - j) 0 ?_ ?_ ?_
        · exact Nat.zero_le _
        · exact le_ofL ⟨rfl, rfl, rfl, rfl, rfl, rfl, rfl, rfl, rfl, rfl, trivial⟩ rfl
        · rintro j hj
          have hzl : (Sp.sortL (Sp.rowsTo l l.length)).length = (Sp.rowsTo l l.length).length := List.length_mergeSort _
          refine f_seq ?_
          refine f_region ?_
          refine scons (CStep.step (PStep.c (p_lss rfl (Sees.of rfl) (Sees.of rfl))) rfl rfl rfl rfl) ?_
          refine snil ?_
          refine f_seq ?_
          refine f_cond rfl ?_ ?_
          · intro hc9
            try simp only [bs] at hc9
            refine f_skip ?_
            refine f_seq ?_
            refine f_block ?_
            refine f_seq ?_
            refine f_region ?_
            refine scons (CStep.step (PStep.c ((by first | exact p_indexR rfl wSol_isl22 wSol_siz35 (Sees.of rfl) rfl (Sees.of rfl) (by omega) | exact p_indexRZ rfl wSol_isl22 wSol_siz35 (Sees.of rfl) rfl (Sees.of rfl) (by omega) (by omega)))) rfl rfl rfl rfl) ?_
            refine scons (CStep.step (PStep.c (p_loadES rfl wSol_agg35 wSol_siz35 (Sees.of rfl) rfl (by omega) (fun _ => rfl))) rfl rfl rfl rfl) ?_
            refine scons (r_alloc (ob := 10018) rfl wSol_zer35 rfl rfl rfl rfl rfl rfl) ?_
            refine scons (r_storeS rfl wSol_siz35 rfl rfl rfl (Sees.of rfl) rfl (Sees.of rfl) rfl rfl rfl rfl) ?_
            refine snil ?_
            have hzj := Sp.getD_mem (Sp.sortL (Sp.rowsTo l l.length)) j ([], false) (by omega)
            have hzr := Sp.red_perm (List.mergeSort_perm (Sp.rowsTo l l.length) (fun x y => decide (Sp.lead x ≤ Sp.lead y))) hred.1
            have hz0 := List.length_pos_iff.2 (hzr.ne _ hzj)
            have hz1 : 1 ≤ ((Sp.sortL (Sp.rowsTo l l.length)).getD j ([], false)).1.getD (nat_lit 0) 0 ∧ ((Sp.sortL (Sp.rowsTo l l.length)).getD j ([], false)).1.getD (nat_lit 0) 0 ≤ m := (hzr.inc _ hzj).1 _ (Sp.lead_mem (hzr.ne _ hzj))
            have hal := Sp.asgTo_len m (Sp.sortL (Sp.rowsTo l l.length)) j
            refine f_draw wSol_mix (by kernel_rfl) ?_
            refine dcons (CStep.step (PStep.c (p_move (y := .row _ _) rfl (Sees.of rfl) rfl)) rfl rfl rfl rfl) ?_
            refine dcons (CStep.step (PStep.c (p_fieldRef rfl wSol_fld35_0 wSol_siz33 rfl (Sees.of rfl) rfl)) rfl rfl rfl rfl) ?_
            refine dcons (CStep.step (PStep.c (p_loadB (y := .val _) rfl wSol_agg33 (Sees.of rfl) rfl rfl rfl rfl)) rfl rfl rfl rfl) ?_
            refine dcons (CStep.step (PStep.c ((by first | exact p_indexN rfl wSol_isl33 wSol_siz3 (Sees.of rfl) (Sees.of rfl) (by omega) | exact p_index rfl wSol_isl33 wSol_siz3 (Sees.of rfl) (Sees.of rfl) (by omega) (by omega)))) rfl rfl rfl rfl) ?_
            refine dcons (CStep.step (PStep.c (p_load rfl wSol_agg3 (Sees.of rfl) rfl)) rfl rfl rfl rfl) ?_
            refine dcons (CStep.step (PStep.c (p_sub rfl (Sees.of rfl) (Sees.of rfl) (by omega))) rfl rfl rfl rfl) ?_
            refine dcons (CStep.step (PStep.c (p_fieldRef rfl wSol_fld35_1 wSol_siz4 rfl (Sees.of rfl) rfl)) rfl rfl rfl rfl) ?_
            refine dcons (CStep.step (PStep.c (p_loadB (y := .val _) rfl wSol_agg4 (Sees.of rfl) rfl rfl rfl rfl)) rfl rfl rfl rfl) ?_
            refine dcons (CStep.step (PStep.c ((by first | exact p_indexR rfl wSol_isl24 wSol_siz4 (Sees.of rfl) rfl (Sees.of rfl) (by omega) | exact p_indexRZ rfl wSol_isl24 wSol_siz4 (Sees.of rfl) rfl (Sees.of rfl) (by omega) (by omega)))) rfl rfl rfl rfl) ?_
            refine dcons (r_storeE rfl wSol_siz4 rfl rfl rfl (Sees.of rfl) rfl (by omega) (Sees.of rfl) rfl) ?_
            refine dnil (by kernel_rfl) ?_
            refine f_nil ?_
            show AWs _ _ _ _ _
            refine f_region ?_
            refine scons (CStep.step (PStep.c (p_add rfl (Sees.of rfl) (Sees.of rfl) (by omega))) rfl rfl rfl rfl) ?_
            refine scons (CStep.step (PStep.c (p_move (y := .val _) rfl (Sees.of rfl) rfl)) rfl rfl rfl rfl) ?_
            refine snil ?_
            refine f_back ⟨j + 1, ?_, ?_, le_ofL ⟨rfl, rfl, rfl, rfl, rfl, rfl, rfl, rfl, rfl, rfl, trivial⟩ rfl⟩
            · omega
            · omega
          · intro hc9
            try simp only [bs] at hc9
            refine f_exit ?_
            show AWs _ _ _ _ _
            refine f_seq ?_
            refine f_region ?_
            refine scons (CStep.step (PStep.c (p_move (y := .row _ _) rfl (Sees.of rfl) rfl)) rfl rfl rfl rfl) ?_
            refine scons (CStep.step (PStep.c (p_move (y := .row _ _) rfl (Sees.of rfl) rfl)) rfl rfl rfl rfl) ?_
            refine scons (CStep.step (PStep.c (p_build rfl wSol_plc26 wSol_zer26 (by decide) wSol_zch26 rfl rfl)) rfl rfl rfl rfl) ?_
            refine scons (CStep.step (PStep.c (p_assign (y := .val _) rfl (Sees.of rfl) rfl)) rfl rfl rfl rfl) ?_
            refine scons (CStep.step (PStep.c (p_assign (y := .row _ _) rfl (Sees.of rfl) rfl)) rfl rfl rfl rfl) ?_
            refine scons (CStep.step (PStep.c (p_assign (y := .row _ _) rfl (Sees.of rfl) rfl)) rfl rfl rfl rfl) ?_
            refine scons (r_storeS rfl wSol_siz26 rfl rfl rfl (Sees.of rfl) rfl (Sees.of rfl) rfl rfl rfl rfl) ?_
            refine snil ?_
            refine f_ret ?_
            refine ends_ret (res_eq (res4 rfl (res_tmp rfl (Sees.of rfl)) (res_row rfl rfl rfl) (res_row rfl rfl rfl) (res_cell (by rfl) rfl rfl wSol_agg26 wSol_siz26 rfl rfl)) ?_)
            obtain rfl : j = (Sp.sortL (Sp.rowsTo l l.length)).length := by omega
            rw [Sp.solveOf_yes hc1 hnb]
            all_goals rfl

end Go.Um
