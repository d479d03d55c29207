/- Walks of Go functions of this seat, each by its contract. No condition beyond what each theorem says. -/
import Derived.Test.YtofonmfoificjaaWPar2
import Derived.Test.YtofonmfoificjaaWOrd
import Derived.Test.YtofonmfoificjaaLay2
import Derived.Test.YtofonmfoificjaaSort3
import Derived.Test.YtofonmfoificjaaSpT
import Derived.Test.YtofonmfoificjaaSv2
import Derived.Test.YtofonmfoificjaaWk
import Derived.Test.YtofonmfoificjaaProg
import Derived.KernelRfl
set_option maxRecDepth 4000
namespace Go.Um
open Go Go.RowKit

theorem wSol_agg25 : IsAgg Go.Proofs.Try.prog 25 false := by unfold IsAgg; kernel_rfl
theorem wSol_agg28 : IsAgg Go.Proofs.Try.prog 28 true := by unfold IsAgg; kernel_rfl
theorem wSol_agg3 : IsAgg Go.Proofs.Try.prog 3 false := by unfold IsAgg; kernel_rfl
theorem wSol_agg4 : IsAgg Go.Proofs.Try.prog 4 false := by unfold IsAgg; kernel_rfl
theorem wSol_agg54 : IsAgg Go.Proofs.Try.prog 54 true := by unfold IsAgg; kernel_rfl
theorem wSol_boo4 : IsBool Go.Proofs.Try.prog 4 := by unfold IsBool; kernel_rfl
theorem wSol_byt4 : Bytes Go.Proofs.Try.prog 4 1 := by unfold Bytes; kernel_rfl
theorem wSol_byt54 : Bytes Go.Proofs.Try.prog 54 32 := by unfold Bytes; kernel_rfl
theorem wSol_eq228 : Eq2 Go.Proofs.Try.prog 28 := ⟨_, _, Go.Proofs.Try.underlying28, by decide, by decide, rfl, rfl, Go.Proofs.Try.underlying3, Go.Proofs.Try.underlying3, by kernel_rfl, by kernel_rfl⟩
theorem wSol_fld28_0 : IsField Go.Proofs.Try.prog 28 0 0 3 := by unfold IsField; kernel_rfl
theorem wSol_fld54_0 : IsField Go.Proofs.Try.prog 54 0 0 25 := by unfold IsField; kernel_rfl
theorem wSol_fld54_1 : IsField Go.Proofs.Try.prog 54 1 1 4 := by unfold IsField; kernel_rfl
theorem wSol_isf107 : IsFn Go.Proofs.Try.prog 107 := by unfold IsFn; kernel_rfl
theorem wSol_isf112 : IsFn Go.Proofs.Try.prog 112 := by unfold IsFn; kernel_rfl
theorem wSol_isf113 : IsFn Go.Proofs.Try.prog 113 := by unfold IsFn; kernel_rfl
theorem wSol_isf114 : IsFn Go.Proofs.Try.prog 114 := by unfold IsFn; kernel_rfl
theorem wSol_isf116 : IsFn Go.Proofs.Try.prog 116 := by unfold IsFn; kernel_rfl
theorem wSol_isf117 : IsFn Go.Proofs.Try.prog 117 := by unfold IsFn; kernel_rfl
theorem wSol_isf24 : IsFn Go.Proofs.Try.prog 24 := by unfold IsFn; kernel_rfl
theorem wSol_isf31 : IsFn Go.Proofs.Try.prog 31 := by unfold IsFn; kernel_rfl
theorem wSol_isf50 : IsFn Go.Proofs.Try.prog 50 := by unfold IsFn; kernel_rfl
theorem wSol_isf55 : IsFn Go.Proofs.Try.prog 55 := by unfold IsFn; kernel_rfl
theorem wSol_isf56 : IsFn Go.Proofs.Try.prog 56 := by unfold IsFn; kernel_rfl
theorem wSol_isf57 : IsFn Go.Proofs.Try.prog 57 := by unfold IsFn; kernel_rfl
theorem wSol_isf74 : IsFn Go.Proofs.Try.prog 74 := by unfold IsFn; kernel_rfl
theorem wSol_isf77 : IsFn Go.Proofs.Try.prog 77 := by unfold IsFn; kernel_rfl
theorem wSol_isl25 : IsSlice Go.Proofs.Try.prog 25 3 := by unfold IsSlice; kernel_rfl
theorem wSol_isl31 : IsSlice Go.Proofs.Try.prog 31 4 := by unfold IsSlice; kernel_rfl
theorem wSol_isl58 : IsSlice Go.Proofs.Try.prog 58 54 := by unfold IsSlice; kernel_rfl
theorem wSol_mix : (Go.Proofs.Try.prog).follows .mixedOrders = true := by kernel_rfl
theorem wSol_plc28 : Places Go.Proofs.Try.prog 28 [(0, 1), (1, 1)] := by unfold Places; kernel_rfl
theorem wSol_plc54 : Places Go.Proofs.Try.prog 54 [(0, 1), (1, 1)] := by unfold Places; kernel_rfl
theorem wSol_siz25 : Size Go.Proofs.Try.prog 25 1 := by unfold Size; kernel_rfl
theorem wSol_siz28 : Size Go.Proofs.Try.prog 28 2 := by unfold Size; kernel_rfl
theorem wSol_siz3 : Size Go.Proofs.Try.prog 3 1 := by unfold Size; kernel_rfl
theorem wSol_siz4 : Size Go.Proofs.Try.prog 4 1 := by unfold Size; kernel_rfl
theorem wSol_siz54 : Size Go.Proofs.Try.prog 54 2 := by unfold Size; kernel_rfl
def wSol_z28 : D := .cons (.int .i64 0) (.cons (.int .i64 0) (.nil))
theorem wSol_zch28 : ∀ (ok : Nat → Prop) (w : World), R Go.Proofs.Try.prog wSol_z28 ok w (Value.cells (.agg #[(.int .i64 0), (.int .i64 0)])).toList := fun _ _ => z_int (z_int (z_nil))
def wSol_z54 : D := .cons (ints []) (.cons (.bool false) (.nil))
theorem wSol_zch54 : ∀ (ok : Nat → Prop) (w : World), R Go.Proofs.Try.prog wSol_z54 ok w (Value.cells (.agg #[(.slice none 0 0), (.bool false)])).toList := fun _ _ => z_list (z_bool (z_nil))
theorem wSol_zer28 : Zero Go.Proofs.Try.prog 28 (.agg #[(.int .i64 0), (.int .i64 0)]) := by unfold Zero; kernel_rfl
theorem wSol_zer3 : Zero Go.Proofs.Try.prog 3 (.int .i64 0) := by unfold Zero; kernel_rfl
theorem wSol_zer4 : Zero Go.Proofs.Try.prog 4 (.bool false) := by unfold Zero; kernel_rfl
theorem wSol_zer54 : Zero Go.Proofs.Try.prog 54 (.agg #[(.slice none 0 0), (.bool false)]) := by unfold Zero; kernel_rfl

theorem solve1_spec (a b : List Int × Bool) (ha : a.1 ≠ []) (hb : b.1 ≠ []) :
    Spec Go.Proofs.Try.prog 115 [.val (dPar a), .val (dPar b)] (di (Sp.cmpI (Sp.lead a) (Sp.lead b))) := by
  refine spec_of' Go.Proofs.Try.func115 rfl Go.Proofs.Try.ntmps115 rfl ?_
  refine f_seq ?_
  have ha1 := List.length_pos_iff.2 ha
  have hb1 := List.length_pos_iff.2 hb
  refine f_region ?_
  refine scons (r_box (ob := 10002) rfl (Sees.of rfl) rfl rfl rfl rfl rfl rfl) ?_
  refine scons (r_box (ob := 10003) rfl (Sees.of rfl) rfl rfl rfl rfl rfl rfl) ?_
  refine scons (CStep.step (PStep.c (p_assign (y := .val _) rfl (Sees.of rfl) rfl)) rfl rfl rfl rfl) ?_
  refine snil ?_
  refine f_seq ?_
  refine f_draw wSol_mix (by kernel_rfl) ?_
  refine dcons (CStep.step (PStep.c (p_fieldRef rfl wSol_fld54_0 wSol_siz25 rfl (Sees.of rfl) rfl)) rfl rfl rfl rfl) ?_
  refine dcons (CStep.step (PStep.c (p_loadB (y := .val _) rfl wSol_agg25 (Sees.of rfl) rfl rfl rfl rfl)) rfl rfl rfl rfl) ?_
  refine dcons (CStep.step (PStep.c ((by first | exact p_indexN rfl wSol_isl25 wSol_siz3 (Sees.of rfl) (Sees.of rfl) (by omega) | exact p_index rfl wSol_isl25 wSol_siz3 (Sees.of rfl) (Sees.of rfl) (by omega) (by omega)))) rfl rfl rfl rfl) ?_
  refine dcons (CStep.step (PStep.c (p_load rfl wSol_agg3 (Sees.of rfl) rfl)) rfl rfl rfl rfl) ?_
  refine dcons (CStep.step (PStep.c (p_fieldRef rfl wSol_fld54_0 wSol_siz25 rfl (Sees.of rfl) rfl)) rfl rfl rfl rfl) ?_
  refine dcons (CStep.step (PStep.c (p_loadB (y := .val _) rfl wSol_agg25 (Sees.of rfl) rfl rfl rfl rfl)) rfl rfl rfl rfl) ?_
  refine dcons (CStep.step (PStep.c ((by first | exact p_indexN rfl wSol_isl25 wSol_siz3 (Sees.of rfl) (Sees.of rfl) (by omega) | exact p_index rfl wSol_isl25 wSol_siz3 (Sees.of rfl) (Sees.of rfl) (by omega) (by omega)))) rfl rfl rfl rfl) ?_
  refine dcons (CStep.step (PStep.c (p_load rfl wSol_agg3 (Sees.of rfl) rfl)) rfl rfl rfl rfl) ?_
  refine dcons (CStep.step (c_call rfl wSol_isf116 ⟨_, _, rfl, (Sees.of rfl), rfl, ⟨_, _, rfl, (Sees.of rfl), rfl, rfl⟩⟩ (cmpI_spec _ _)) rfl rfl rfl rfl) ?_
  refine dcons (CStep.step (PStep.c (p_assign (y := .val _) rfl (Sees.of rfl) rfl)) rfl rfl rfl rfl) ?_
  refine dnil (by kernel_rfl) ?_
  refine f_ret ?_
  refine ends_ret (res_eq (res1 rfl (res_tmp rfl (Sees.of rfl))) ?_)
  rfl

set_option maxHeartbeats 2000000 in
theorem solve_spec (n : Int) (l : List (List Int × Bool)) :
    Spec Go.Proofs.Try.prog 56 [iv n, .val (pars l)] (four (di (Sp.solveOf n l).1) (pars (Sp.solveOf n l).2.1) (bools (Sp.solveOf n l).2.2.1) (fault (Sp.solveOf n l).2.2.2.1 (Sp.solveOf n l).2.2.2.2)) := by
  refine spec_of' Go.Proofs.Try.func56 rfl Go.Proofs.Try.ntmps56 rfl ?_
  refine f_seq ?_
  refine f_region ?_
  refine scons (CStep.step (PStep.c (p_assign (y := .val _) rfl (Sees.of rfl) rfl)) rfl rfl rfl rfl) ?_
  refine scons (CStep.step (PStep.c (p_assign (y := .emp) rfl (Sees.of rfl) rfl)) rfl rfl rfl rfl) ?_
  refine scons (CStep.step (PStep.c (p_assign (y := .emp) rfl (Sees.of rfl) rfl)) rfl rfl rfl rfl) ?_
  refine scons (r_alloc (ob := 10007) rfl wSol_zer28 rfl rfl rfl rfl rfl rfl) ?_
  refine snil ?_
  refine f_seq ?_
  refine f_seq ?_
  refine f_region ?_
  refine scons (CStep.step (PStep.c (p_move (y := .val _) rfl (Sees.of rfl) rfl)) rfl rfl rfl rfl) ?_
  refine scons (CStep.step (PStep.c (p_move (y := .val _) rfl (Sees.of rfl) rfl)) rfl rfl rfl rfl) ?_
  refine scons (CStep.step (c_call rfl wSol_isf77 ⟨_, _, rfl, (Sees.of rfl), rfl, ⟨_, _, rfl, (Sees.of rfl), rfl, rfl⟩⟩ (parCheck_spec n l)) rfl rfl rfl rfl) ?_
  refine scons (r_alloc (ob := 10008) rfl wSol_zer28 rfl rfl rfl rfl rfl rfl) ?_
  refine scons (r_storeS rfl wSol_siz28 rfl rfl rfl (Sees.of rfl) rfl (Sees.of rfl) rfl rfl rfl rfl) ?_
  refine snil ?_
  refine f_seq ?_
  refine f_region ?_
  refine scons (CStep.step (PStep.c (p_fieldRef rfl wSol_fld28_0 wSol_siz3 rfl (Sees.of rfl) rfl)) rfl rfl rfl rfl) ?_
  refine scons (CStep.step (PStep.c (p_loadB (y := .val _) rfl wSol_agg3 (Sees.of rfl) rfl rfl rfl rfl)) rfl rfl rfl rfl) ?_
  refine scons (CStep.step (PStep.c (p_neq rfl (Sees.of rfl) (Sees.of rfl))) rfl rfl rfl rfl) ?_
  refine snil ?_
  refine f_cond rfl ?_ ?_
  · intro hc1
    try simp only [bs] at hc1
    refine f_seq ?_
    refine f_draw wSol_mix (by kernel_rfl) ?_
    refine dcons (CStep.step (PStep.c (p_loadBS rfl wSol_agg28 wSol_siz28 (Sees.of rfl) rfl rfl rfl)) rfl rfl rfl rfl) ?_
    refine dcons (CStep.step (PStep.c (p_assign (y := .val _) rfl (Sees.of rfl) rfl)) rfl rfl rfl rfl) ?_
    refine dcons (CStep.step (PStep.c (p_assign (y := .emp) rfl (Sees.of rfl) rfl)) rfl rfl rfl rfl) ?_
    refine dcons (CStep.step (PStep.c (p_assign (y := .emp) rfl (Sees.of rfl) rfl)) rfl rfl rfl rfl) ?_
    refine dcons (r_storeS rfl wSol_siz28 rfl rfl rfl (Sees.of rfl) rfl (Sees.of rfl) rfl rfl rfl rfl) ?_
    refine dnil (by kernel_rfl) ?_
    refine f_ret ?_
    refine ends_ret (res_eq (res4 rfl (res_tmp rfl (Sees.of rfl)) (res_tmp rfl (Sees.emp rfl 2 dPar ([], false))) (res_tmp rfl (Sees.emp rfl 1 D.bool false)) (res_cell (by rfl) rfl rfl wSol_agg28 wSol_siz28 rfl rfl)) ?_)
    rw [Sp.solveOf_err hc1]
    all_goals rfl
  · intro hc1
    try simp only [bs] at hc1
    have hok := Sp.par_ok hc1
    have hll := hok.2.1
    have hinc : Sp.Incs n l := hok.2.2.1
    obtain ⟨m, rfl⟩ : ∃ m : Nat, n = (m : Int) := ⟨n.toNat, by omega⟩
    refine f_skip ?_
    refine f_seq ?_
    refine f_region ?_
    refine scons (CStep.step (PStep.c (p_assign (y := .emp) rfl (Sees.of rfl) rfl)) rfl rfl rfl rfl) ?_
    refine snil ?_
    refine f_seq ?_
    refine f_seq ?_
    refine f_region ?_
    refine scons (CStep.step (PStep.c (p_move (y := .val _) rfl (Sees.of rfl) rfl)) rfl rfl rfl rfl) ?_
    refine scons (CStep.step (PStep.c (p_len rfl wSol_isl58 (Sees.of rfl))) rfl rfl rfl rfl) ?_
    refine scons (CStep.step (PStep.c (p_move (y := .val _) rfl (Sees.of rfl) rfl)) rfl rfl rfl rfl) ?_
    refine snil ?_
    refine f_block ?_
    refine f_loop (α := Nat × Nat) (fun (i, u) => i ≤ l.length ∧ ∀ j, j < i → ¬ Sp.bad l j) (fun (i, u) => [(28, iv i), (26, .val (pars l)), (27, iv l.length), (0, iv m), (7, .ref 10007 0 0), (10007, .box 0 (.ccons (iv 0) (.ccons (iv 0) .cnil))), (9, .row 30000 u), (30000, .arr u 54 2 32 dPar ([], false) (Sp.rowsTo l i))]) (fun (i, u) => l.length - i) (0, 0) ?_ ?_ ?_
    · exact ⟨Nat.zero_le _, fun j hj => absurd hj (Nat.not_lt_zero _)⟩
    · exact Le.trans (GLe.le (g_adopt (ob := 30000) (k := 9) 54 2 32 dPar ([], false) rfl rfl rfl rfl)) (le_ofL ⟨rfl, rfl, rfl, rfl, rfl, rfl, rfl, rfl, trivial⟩ rfl)
    · rintro ⟨i, u⟩ hi
      obtain ⟨hi, hnb⟩ : i ≤ l.length ∧ ∀ j, j < i → ¬ Sp.bad l j := hi
      have hred := Sp.rowsTo_inv hinc i hi hnb
      refine f_seq ?_
      refine f_region ?_
      refine scons (CStep.step (PStep.c (p_lss rfl (Sees.of rfl) (Sees.of rfl))) rfl rfl rfl rfl) ?_
      refine snil ?_
      refine f_seq ?_
      refine f_cond rfl ?_ ?_
      · intro hc2
        try simp only [bs] at hc2
        refine f_skip ?_
        refine f_seq ?_
        refine f_block ?_
        refine f_seq ?_
        refine f_region ?_
        refine scons (CStep.step (PStep.c ((by first | exact p_indexN rfl wSol_isl58 wSol_siz54 (Sees.of rfl) (Sees.of rfl) (by omega) | exact p_index rfl wSol_isl58 wSol_siz54 (Sees.of rfl) (Sees.of rfl) (by omega) (by omega)))) rfl rfl rfl rfl) ?_
        refine scons (CStep.step (PStep.c (p_loadS rfl wSol_agg54 wSol_siz54 (Sees.of rfl) ⟨rfl, fun h => R_len rfl h⟩)) rfl rfl rfl rfl) ?_
        refine scons (r_alloc (ob := 10011) rfl wSol_zer54 rfl rfl rfl rfl rfl rfl) ?_
        refine scons (r_storeS rfl wSol_siz54 rfl rfl rfl (Sees.of rfl) rfl (Sees.of rfl) rfl rfl rfl rfl) ?_
        refine snil ?_
        refine f_seq ?_
        refine f_region ?_
        refine scons (CStep.step (PStep.c (p_fieldRef rfl wSol_fld54_0 wSol_siz25 rfl (Sees.of rfl) rfl)) rfl rfl rfl rfl) ?_
        refine scons (CStep.step (PStep.c (p_loadB (y := .val _) rfl wSol_agg25 (Sees.of rfl) rfl rfl rfl rfl)) rfl rfl rfl rfl) ?_
        refine scons (r_callS (q := false) (ob := 10034) 0 rfl wSol_isf107 (cloneI_spec (l.getD i ([], false)).1 (by have := Sp.inc_len hok.1 (hinc _ (Sp.getD_mem l i ([], false) (by omega))); omega)) (sa_cons (sh_of (Sees.of rfl) rfl) (sa_nil)) (.inl rfl) rfl rfl rfl rfl rfl) ?_
        refine scons (CStep.step (PStep.c (p_fieldRef rfl wSol_fld54_0 wSol_siz25 rfl (Sees.of rfl) rfl)) rfl rfl rfl rfl) ?_
        refine scons (LStep.pre (g_freeze (k := 34) (o1 := 10034) rfl rfl rfl rfl) (r_store rfl wSol_siz25 rfl rfl rfl (Sees.of rfl) rfl rfl (Sees.of rfl) (one_val rfl))) ?_
        refine snil ?_
        refine f_seq ?_
        refine f_seq ?_
        refine f_region ?_
        refine scons (CStep.step (PStep.c (p_move (y := .row _ _) rfl (Sees.of rfl) rfl)) rfl rfl rfl rfl) ?_
        refine scons (CStep.step (PStep.c (p_lenR rfl wSol_isl58 (Sees.of rfl) rfl)) rfl rfl rfl rfl) ?_
        refine scons (CStep.step (PStep.c (p_move (y := .val _) rfl (Sees.of rfl) rfl)) rfl rfl rfl rfl) ?_
        refine snil ?_
        refine f_block ?_
        refine f_loop (α := Nat) (fun j => j ≤ (Sp.rowsTo l i).length) (fun j => [(38, iv j), (36, .row 30000 u), (37, iv (Sp.rowsTo l i).length), (11, .ref 10011 0 0), (10011, .box 0 (.ccons (.val (ints (Sp.redTo (Sp.rowsTo l i) (l.getD i ([], false)) j).1)) (.ccons (bv (Sp.redTo (Sp.rowsTo l i) (l.getD i ([], false)) j).2) .cnil))), (28, iv i), (26, .val (pars l)), (27, iv l.length), (0, iv m), (7, .ref 10007 0 0), (10007, .box 0 (.ccons (iv 0) (.ccons (iv 0) .cnil))), (9, .row 30000 u), (30000, .arr u 54 2 32 dPar ([], false) (Sp.rowsTo l i))]) (fun j => (Sp.rowsTo l i).length - j) 0 ?_ ?_ ?_
        · exact Nat.zero_le _
        · exact le_ofL ⟨rfl, rfl, rfl, rfl, rfl, rfl, rfl, rfl, rfl, rfl, rfl, rfl, rfl, trivial⟩ rfl
        · rintro j hj
          have hp0 := hinc _ (Sp.getD_mem l i ([], false) (by omega))
          refine f_seq ?_
          refine f_region ?_
          refine scons (CStep.step (PStep.c (p_lss rfl (Sees.of rfl) (Sees.of rfl))) rfl rfl rfl rfl) ?_
          refine snil ?_
          refine f_seq ?_
          refine f_cond rfl ?_ ?_
          · intro hc3
            try simp only [bs] at hc3
            refine f_skip ?_
            refine f_seq ?_
            refine f_block ?_
            refine f_seq ?_
            refine f_region ?_
            refine scons (CStep.step (PStep.c ((by first | exact p_indexR rfl wSol_isl58 wSol_siz54 (Sees.of rfl) rfl (Sees.of rfl) (by omega) | exact p_indexRZ rfl wSol_isl58 wSol_siz54 (Sees.of rfl) rfl (Sees.of rfl) (by omega) (by omega)))) rfl rfl rfl rfl) ?_
            refine scons (CStep.step (PStep.c (p_loadES rfl wSol_agg54 wSol_siz54 (Sees.of rfl) rfl (by omega) (fun _ => rfl))) rfl rfl rfl rfl) ?_
            refine scons (r_alloc (ob := 10013) rfl wSol_zer54 rfl rfl rfl rfl rfl rfl) ?_
            refine scons (r_storeS rfl wSol_siz54 rfl rfl rfl (Sees.of rfl) rfl (Sees.of rfl) rfl rfl rfl rfl) ?_
            refine snil ?_
            refine f_seq ?_
            have hrj := Sp.getD_mem (Sp.rowsTo l i) j ([], false) (by omega)
            have hjp := List.length_pos_iff.2 (hred.1.ne _ hrj)
            have hq1 := Sp.inc_len hok.1 (Sp.redTo_span hred.1.inc hp0 j (by omega)).1
            have hq2 := Sp.inc_len hok.1 (hred.1.inc _ hrj)
            refine f_draw wSol_mix (by kernel_rfl) ?_
            refine dcons (CStep.step (PStep.c (p_fieldRef rfl wSol_fld54_0 wSol_siz25 rfl (Sees.of rfl) rfl)) rfl rfl rfl rfl) ?_
            refine dcons (CStep.step (PStep.c (p_loadB (y := .val _) rfl wSol_agg25 (Sees.of rfl) rfl rfl rfl rfl)) rfl rfl rfl rfl) ?_
            refine dcons (CStep.step (PStep.c (p_fieldRef rfl wSol_fld54_0 wSol_siz25 rfl (Sees.of rfl) rfl)) rfl rfl rfl rfl) ?_
            refine dcons (CStep.step (PStep.c (p_loadB (y := .val _) rfl wSol_agg25 (Sees.of rfl) rfl rfl rfl rfl)) rfl rfl rfl rfl) ?_
            refine dcons (CStep.step (PStep.c ((by first | exact p_indexN rfl wSol_isl25 wSol_siz3 (Sees.of rfl) (Sees.of rfl) (by omega) | exact p_index rfl wSol_isl25 wSol_siz3 (Sees.of rfl) (Sees.of rfl) (by omega) (by omega)))) rfl rfl rfl rfl) ?_
            refine dcons (CStep.step (PStep.c (p_load rfl wSol_agg3 (Sees.of rfl) rfl)) rfl rfl rfl rfl) ?_
            refine dcons (CStep.step (c_call rfl wSol_isf112 ⟨_, _, rfl, (Sees.of rfl), rfl, ⟨_, _, rfl, (Sees.of rfl), rfl, rfl⟩⟩ (hasI_spec _ _)) rfl rfl rfl rfl) ?_
            refine dnil (by kernel_rfl) ?_
            refine f_cond rfl ?_ ?_
            · intro hc4
              try simp only [bs] at hc4
              refine f_region ?_
              refine scons (CStep.step (PStep.c (p_loadBS rfl wSol_agg54 wSol_siz54 (Sees.of rfl) rfl rfl rfl)) rfl rfl rfl rfl) ?_
              refine scons (CStep.step (PStep.c (p_loadBS rfl wSol_agg54 wSol_siz54 (Sees.of rfl) rfl rfl rfl)) rfl rfl rfl rfl) ?_
              refine scons (CStep.step (c_call rfl wSol_isf113 ⟨_, _, rfl, (Sees.of rfl), rfl, ⟨_, _, rfl, (Sees.of rfl), rfl, rfl⟩⟩ (parsum_spec (Sp.redTo (Sp.rowsTo l i) (l.getD i ([], false)) j) ((Sp.rowsTo l i).getD j ([], false)) (by omega) (by omega))) rfl rfl rfl rfl) ?_
              refine scons (r_storeS rfl wSol_siz54 rfl rfl rfl (Sees.of rfl) rfl (Sees.of rfl) rfl rfl rfl rfl) ?_
              refine snil ?_
              refine f_nil ?_
              show AWs _ _ _ _ _
              refine f_region ?_
              refine scons (CStep.step (PStep.c (p_add rfl (Sees.of rfl) (Sees.of rfl) (by omega))) rfl rfl rfl rfl) ?_
              refine scons (CStep.step (PStep.c (p_move (y := .val _) rfl (Sees.of rfl) rfl)) rfl rfl rfl rfl) ?_
              refine snil ?_
              refine f_back ⟨j + 1, ?_, ?_, le_ofL ⟨rfl, rfl, rfl, rfl, (by rw [Sp.redTo_yes hc4]; rfl), rfl, rfl, rfl, rfl, rfl, rfl, rfl, rfl, trivial⟩ rfl⟩
              · omega
              · omega
            · intro hc4
              try simp only [bs] at hc4
              refine f_skip ?_
              refine f_nil ?_
              show AWs _ _ _ _ _
              refine f_region ?_
              refine scons (CStep.step (PStep.c (p_add rfl (Sees.of rfl) (Sees.of rfl) (by omega))) rfl rfl rfl rfl) ?_
              refine scons (CStep.step (PStep.c (p_move (y := .val _) rfl (Sees.of rfl) rfl)) rfl rfl rfl rfl) ?_
              refine snil ?_
              refine f_back ⟨j + 1, ?_, ?_, le_ofL ⟨rfl, rfl, rfl, rfl, (by rw [Sp.redTo_no hc4]; rfl), rfl, rfl, rfl, rfl, rfl, rfl, rfl, rfl, trivial⟩ rfl⟩
              · omega
              · omega
          · intro hc3
            try simp only [bs] at hc3
            refine f_exit ?_
            show AWs _ _ _ _ _
            refine f_seq ?_
            refine f_seq ?_
            obtain rfl : j = (Sp.rowsTo l i).length := by omega
            have hnew := Sp.redTo_span hred.1.inc hp0 (Sp.rowsTo l i).length (Nat.le_refl _)
            have hnl := Sp.inc_len hok.1 hnew.1
            refine f_region ?_
            refine scons (CStep.step (PStep.c (p_fieldRef rfl wSol_fld54_0 wSol_siz25 rfl (Sees.of rfl) rfl)) rfl rfl rfl rfl) ?_
            refine scons (CStep.step (PStep.c (p_loadB (y := .val _) rfl wSol_agg25 (Sees.of rfl) rfl rfl rfl rfl)) rfl rfl rfl rfl) ?_
            refine scons (CStep.step (PStep.c (p_len rfl wSol_isl25 (Sees.of rfl))) rfl rfl rfl rfl) ?_
            refine scons (CStep.step (PStep.c (p_eql rfl (Sees.of rfl) (Sees.of rfl))) rfl rfl rfl rfl) ?_
            refine snil ?_
            refine f_cond rfl ?_ ?_
            · intro hc5
              try simp only [bs] at hc5
              refine f_seq ?_
              refine f_seq ?_
              refine f_region ?_
              refine scons (CStep.step (PStep.c (p_fieldRef rfl wSol_fld54_1 wSol_siz4 rfl (Sees.of rfl) rfl)) rfl rfl rfl rfl) ?_
              refine scons (CStep.step (PStep.c (p_loadB (y := .val _) rfl wSol_agg4 (Sees.of rfl) rfl rfl rfl rfl)) rfl rfl rfl rfl) ?_
              refine snil ?_
              refine f_cond rfl ?_ ?_
              · intro hc6
                try simp only [bs] at hc6
                refine f_seq ?_
                refine f_region ?_
                refine scons (CStep.step (PStep.c (p_build rfl wSol_plc54 wSol_zer54 (by decide) wSol_zch54 ⟨_, _, _, rfl, rfl, rfl, (Sees.of rfl), rfl⟩ rfl)) rfl rfl rfl rfl) ?_
                refine scons (CStep.step (c_buildSlice (f := dPar) (za := ([], false)) (xs := [.tmp 59]) rfl rfl wSol_isl58 wSol_siz54 wSol_zer54 rfl rfl ⟨(_, _), _, rfl, (Sees.of rfl), rfl, rfl, rfl⟩) rfl rfl rfl rfl) ?_
                refine scons (CStep.step (PStep.c (p_build rfl wSol_plc28 wSol_zer28 (by decide) wSol_zch28 rfl rfl)) rfl rfl rfl rfl) ?_
                refine scons (CStep.step (PStep.c (p_assign (y := .val _) rfl (Sees.of rfl) rfl)) rfl rfl rfl rfl) ?_
                refine scons (CStep.step (PStep.c (p_assign (y := .val _) rfl (Sees.of rfl) rfl)) rfl rfl rfl rfl) ?_
                refine scons (CStep.step (PStep.c (p_assign (y := .emp) rfl (Sees.of rfl) rfl)) rfl rfl rfl rfl) ?_
                refine scons (r_storeS rfl wSol_siz28 rfl rfl rfl (Sees.of rfl) rfl (Sees.of rfl) rfl rfl rfl rfl) ?_
                refine snil ?_
                refine f_ret ?_
                have hbad : Sp.bad l i := Prod.ext (List.eq_nil_of_length_eq_zero (by omega)) hc6
                refine ends_ret (res_eq (res4 rfl (res_tmp rfl (Sees.of rfl)) (res_tmp rfl (Sees.of rfl)) (res_tmp rfl (Sees.emp rfl 1 D.bool false)) (res_cell (by rfl) rfl rfl wSol_agg28 wSol_siz28 rfl rfl)) ?_)
                rw [Sp.solveOf_no hc1 (by omega) hnb hbad]
                all_goals rfl
              · intro hc6
                try simp only [bs] at hc6
                refine f_skip ?_
                refine f_exit ?_
                show AWs _ _ _ _ _
                refine f_region ?_
                refine scons (CStep.step (PStep.c (p_add rfl (Sees.of rfl) (Sees.of rfl) (by omega))) rfl rfl rfl rfl) ?_
                refine scons (CStep.step (PStep.c (p_move (y := .val _) rfl (Sees.of rfl) rfl)) rfl rfl rfl rfl) ?_
                refine snil ?_
                have hne : (Sp.newP l i).1 = [] := List.eq_nil_of_length_eq_zero (by show (Sp.redTo (Sp.rowsTo l i) (l.getD i ([], false)) (Sp.rowsTo l i).length).1.length = 0; omega)
                refine f_back ⟨(i + 1, u), ?_, ?_, le_ofL ⟨rfl, rfl, rfl, rfl, rfl, rfl, rfl, (by rw [Sp.rowsTo_none hne]; rfl), trivial⟩ rfl⟩
                · refine ⟨by omega, fun j hj => ?_⟩
                  by_cases e : j = i
                  · rw [e]; exact fun h => by rw [show Sp.redTo (Sp.rowsTo l i) (l.getD i ([], false)) (Sp.rowsTo l i).length = ([], true) from h] at hc6; cases hc6
                  · exact hnb j (by omega)
                · show l.length - (i + 1) < l.length - i
                  omega
            · intro hc5
              try simp only [bs] at hc5
              refine f_skip ?_
              refine f_seq ?_
              refine f_seq ?_
              have hnn : (Sp.newP l i).1 ≠ [] := fun h => hc5 (by rw [show (Sp.redTo (Sp.rowsTo l i) (l.getD i ([], false)) (Sp.rowsTo l i).length).1 = [] from h]; rfl)
              have hnp := List.length_pos_iff.2 hnn
              have hnl2 : (Sp.newP l i).1.length ≤ 120 := hnl
              refine f_region ?_
              refine scons (CStep.step (PStep.c (p_move (y := .row _ _) rfl (Sees.of rfl) rfl)) rfl rfl rfl rfl) ?_
              refine scons (CStep.step (PStep.c (p_lenR rfl wSol_isl58 (Sees.of rfl) rfl)) rfl rfl rfl rfl) ?_
              refine scons (CStep.step (PStep.c (p_move (y := .val _) rfl (Sees.of rfl) rfl)) rfl rfl rfl rfl) ?_
              refine snil ?_
              refine f_block ?_
              refine f_loop (α := Nat) (fun j => j ≤ (Sp.rowsTo l i).length) (fun j => [(64, iv j), (62, .row 30000 u), (63, iv (Sp.rowsTo l i).length), (11, .ref 10011 0 0), (10011, .box 0 (.ccons (.val (ints (Sp.newP l i).1)) (.ccons (bv (Sp.newP l i).2) .cnil))), (28, iv i), (26, .val (pars l)), (27, iv l.length), (0, iv m), (7, .ref 10007 0 0), (10007, .box 0 (.ccons (iv 0) (.ccons (iv 0) .cnil))), (9, .row 30000 u), (30000, .arr u 54 2 32 dPar ([], false) (Sp.upTo (Sp.clrV (Sp.lead (Sp.newP l i)) (Sp.newP l i)) (Sp.rowsTo l i) j))]) (fun j => (Sp.rowsTo l i).length - j) 0 ?_ ?_ ?_
              · exact Nat.zero_le _
              · exact le_ofL ⟨rfl, rfl, rfl, rfl, rfl, rfl, rfl, rfl, rfl, rfl, rfl, rfl, (by rw [Sp.upTo_zero]; rfl), trivial⟩ rfl
              · rintro j hj
                have hul := Sp.upTo_len (Sp.clrV (Sp.lead (Sp.newP l i)) (Sp.newP l i)) (Sp.rowsTo l i) j
                refine f_seq ?_
                refine f_region ?_
                refine scons (CStep.step (PStep.c (p_lss rfl (Sees.of rfl) (Sees.of rfl))) rfl rfl rfl rfl) ?_
                refine snil ?_
                refine f_seq ?_
                refine f_cond rfl ?_ ?_
                · intro hc7
                  try simp only [bs] at hc7
                  refine f_skip ?_
                  refine f_seq ?_
                  refine f_block ?_
                  refine f_seq ?_
                  have hup := Sp.upTo_at (Sp.clrV (Sp.lead (Sp.newP l i)) (Sp.newP l i)) (Sp.rowsTo l i) (i := j) (by omega) ([], false)
                  have hrj := Sp.inc_len hok.1 (hred.1.inc _ (Sp.getD_mem (Sp.rowsTo l i) j ([], false) (by omega)))
                  refine f_region ?_
                  refine scons (CStep.step (PStep.c (p_move (y := .val _) rfl (Sees.of rfl) rfl)) rfl rfl rfl rfl) ?_
                  refine scons (CStep.step (PStep.c ((by first | exact p_indexR rfl wSol_isl58 wSol_siz54 (Sees.of rfl) rfl (Sees.of rfl) (by omega) | exact p_indexRZ rfl wSol_isl58 wSol_siz54 (Sees.of rfl) rfl (Sees.of rfl) (by omega) (by omega)))) rfl rfl rfl rfl) ?_
                  refine scons (CStep.step (PStep.c (p_loadES rfl wSol_agg54 wSol_siz54 (Sees.of rfl) rfl (by omega) (fun _ => rfl))) rfl rfl rfl rfl) ?_
                  refine scons (r_alloc (ob := 10015) rfl wSol_zer54 rfl rfl rfl rfl rfl rfl) ?_
                  refine scons (CStep.step (PStep.c (p_assign (y := .val _) rfl (Sees.of rfl) rfl)) rfl rfl rfl rfl) ?_
                  refine scons (r_storeS rfl wSol_siz54 rfl rfl rfl (Sees.of rfl) rfl (Sees.of rfl) rfl rfl rfl rfl) ?_
                  refine snil ?_
                  refine f_seq ?_
                  refine f_draw wSol_mix (by kernel_rfl) ?_
                  refine dcons (CStep.step (PStep.c (p_fieldRef rfl wSol_fld54_0 wSol_siz25 rfl (Sees.of rfl) rfl)) rfl rfl rfl rfl) ?_
                  refine dcons (CStep.step (PStep.c (p_loadB (y := .val _) rfl wSol_agg25 (Sees.of rfl) rfl rfl rfl rfl)) rfl rfl rfl rfl) ?_
                  refine dcons (CStep.step (PStep.c (p_fieldRef rfl wSol_fld54_0 wSol_siz25 rfl (Sees.of rfl) rfl)) rfl rfl rfl rfl) ?_
                  refine dcons (CStep.step (PStep.c (p_loadB (y := .val _) rfl wSol_agg25 (Sees.of rfl) rfl rfl rfl rfl)) rfl rfl rfl rfl) ?_
                  refine dcons (CStep.step (PStep.c ((by first | exact p_indexN rfl wSol_isl25 wSol_siz3 (Sees.of rfl) (Sees.of rfl) (by omega) | exact p_index rfl wSol_isl25 wSol_siz3 (Sees.of rfl) (Sees.of rfl) (by omega) (by omega)))) rfl rfl rfl rfl) ?_
                  refine dcons (CStep.step (PStep.c (p_load rfl wSol_agg3 (Sees.of rfl) rfl)) rfl rfl rfl rfl) ?_
                  refine dcons (CStep.step (c_call rfl wSol_isf112 ⟨_, _, rfl, (Sees.of rfl), rfl, ⟨_, _, rfl, (Sees.of rfl), rfl, rfl⟩⟩ (hasI_spec _ _)) rfl rfl rfl rfl) ?_
                  refine dnil (by kernel_rfl) ?_
                  refine f_cond rfl ?_ ?_
                  · intro hc8
                    try simp only [bs] at hc8
                    refine f_region ?_
                    refine scons (CStep.step (PStep.c (p_move (y := .row _ _) rfl (Sees.of rfl) rfl)) rfl rfl rfl rfl) ?_
                    refine scons (CStep.step (PStep.c (p_move (y := .val _) rfl (Sees.of rfl) rfl)) rfl rfl rfl rfl) ?_
                    refine scons (CStep.step (PStep.c (p_loadBS rfl wSol_agg54 wSol_siz54 (Sees.of rfl) rfl rfl rfl)) rfl rfl rfl rfl) ?_
                    refine scons (CStep.step (PStep.c (p_loadBS rfl wSol_agg54 wSol_siz54 (Sees.of rfl) rfl rfl rfl)) rfl rfl rfl rfl) ?_
                    refine scons (CStep.step (c_call rfl wSol_isf113 ⟨_, _, rfl, (Sees.of rfl), rfl, ⟨_, _, rfl, (Sees.of rfl), rfl, rfl⟩⟩ (parsum_spec (Sp.upTo (Sp.clrV (Sp.lead (Sp.newP l i)) (Sp.newP l i)) (Sp.rowsTo l i) j |>.getD j ([], false)) (Sp.newP l i) (by rw [hup]; omega) (by omega))) rfl rfl rfl rfl) ?_
                    refine scons (CStep.step (PStep.c ((by first | exact p_indexR rfl wSol_isl58 wSol_siz54 (Sees.of rfl) rfl (Sees.of rfl) (by omega) | exact p_indexRZ rfl wSol_isl58 wSol_siz54 (Sees.of rfl) rfl (Sees.of rfl) (by omega) (by omega)))) rfl rfl rfl rfl) ?_
                    refine scons (r_storeEA rfl wSol_siz54 rfl rfl rfl (Sees.of rfl) rfl (by omega) (Sees.of rfl) rfl rfl rfl) ?_
                    refine snil ?_
                    refine f_nil ?_
                    show AWs _ _ _ _ _
                    refine f_region ?_
                    refine scons (CStep.step (PStep.c (p_add rfl (Sees.of rfl) (Sees.of rfl) (by omega))) rfl rfl rfl rfl) ?_
                    refine scons (CStep.step (PStep.c (p_move (y := .val _) rfl (Sees.of rfl) rfl)) rfl rfl rfl rfl) ?_
                    refine snil ?_
                    refine f_back ⟨j + 1, ?_, ?_, le_ofL ⟨rfl, rfl, rfl, rfl, rfl, rfl, rfl, rfl, rfl, rfl, rfl, rfl, (by rw [← Sp.upTo_set (Sp.clrV (Sp.lead (Sp.newP l i)) (Sp.newP l i)) (Sp.rowsTo l i) (by omega) ([], false), Sp.clrV_yes (by rw [← hup]; exact hc8), ← hup]; rfl), trivial⟩ rfl⟩
                    · omega
                    · omega
                  · intro hc8
                    try simp only [bs] at hc8
                    refine f_skip ?_
                    refine f_nil ?_
                    show AWs _ _ _ _ _
                    refine f_region ?_
                    refine scons (CStep.step (PStep.c (p_add rfl (Sees.of rfl) (Sees.of rfl) (by omega))) rfl rfl rfl rfl) ?_
                    refine scons (CStep.step (PStep.c (p_move (y := .val _) rfl (Sees.of rfl) rfl)) rfl rfl rfl rfl) ?_
                    refine snil ?_
                    refine f_back ⟨j + 1, ?_, ?_, le_ofL ⟨rfl, rfl, rfl, rfl, rfl, rfl, rfl, rfl, rfl, rfl, rfl, rfl, (by rw [← Sp.upTo_same (Sp.clrV (Sp.lead (Sp.newP l i)) (Sp.newP l i)) (Sp.rowsTo l i) (by omega) ([], false) (Sp.clrV_no (by rw [← hup]; exact hc8))]; rfl), trivial⟩ rfl⟩
                    · omega
                    · omega
                · intro hc7
                  try simp only [bs] at hc7
                  refine f_exit ?_
                  show AWs _ _ _ _ _
                  have hjR : j = (Sp.rowsTo l i).length := by omega
                  refine f_region ?_
                  refine scons (CStep.step (PStep.c (p_move (y := .row _ _) rfl (Sees.of rfl) rfl)) rfl rfl rfl rfl) ?_
                  refine scons (CStep.step (PStep.c (p_loadBS rfl wSol_agg54 wSol_siz54 (Sees.of rfl) rfl rfl rfl)) rfl rfl rfl rfl) ?_
                  refine scons (CStep.step (c_buildSlice (f := dPar) (za := ([], false)) (xs := [.tmp 84]) rfl rfl wSol_isl58 wSol_siz54 wSol_zer54 rfl rfl ⟨(_, _), _, rfl, (Sees.of rfl), rfl, rfl, rfl⟩) rfl rfl rfl rfl) ?_
                  refine scons (r_appendR (ob := 30000) rfl wSol_isl58 wSol_siz54 wSol_byt54 wSol_zer54 rfl rfl (Sees.of rfl) rfl (Sees.of rfl) (by simp only [List.length_cons, List.length_nil, List.length_append]; omega) (by simp only [List.length_cons, List.length_nil, List.length_append]; omega) rfl rfl rfl rfl rfl) ?_
                  refine scons (CStep.step (PStep.c (p_assign (y := .row _ _) rfl (Sees.of rfl) rfl)) rfl rfl rfl rfl) ?_
                  refine snil ?_
                  refine f_nil ?_
                  show AWs _ _ _ _ _
                  refine f_region ?_
                  refine scons (CStep.step (PStep.c (p_add rfl (Sees.of rfl) (Sees.of rfl) (by omega))) rfl rfl rfl rfl) ?_
                  refine scons (CStep.step (PStep.c (p_move (y := .val _) rfl (Sees.of rfl) rfl)) rfl rfl rfl rfl) ?_
                  refine snil ?_
                  refine f_back ⟨(i + 1, u + 1), ?_, ?_, le_ofL ⟨rfl, rfl, rfl, rfl, rfl, rfl, rfl, (by show AV.arr _ _ _ _ _ _ (Sp.upTo (Sp.clrV (Sp.lead (Sp.newP l i)) (Sp.newP l i)) (Sp.rowsTo l i) j ++ [(Sp.newP l i)]) = _; rw [hjR, Sp.upTo_end, Sp.rowsTo_more hnn]; rfl), trivial⟩ rfl⟩
                  · refine ⟨by omega, fun j hj => ?_⟩
                    by_cases e : j = i
                    · rw [e]; exact fun h => hnn (congrArg Prod.fst h)
                    · exact hnb j (by omega)
                  · show l.length - (i + 1) < l.length - i
                    omega
      · intro hc2
        try simp only [bs] at hc2
        refine f_exit ?_
        show AWs _ _ _ _ _
        refine f_seq ?_
        obtain rfl : i = l.length := by omega
        have hrl := hred.2.2
        refine f_region ?_
        refine scons (CStep.step (PStep.c (p_move (y := .row _ _) rfl (Sees.of rfl) rfl)) rfl rfl rfl rfl) ?_
        refine scons (r_callB rfl wSol_isf114 (sortK_spec Go.Proofs.Try.laySFP dPar ([], false) 2 (by decide) (run_isAgg wSol_agg54) (run_sizeOf wSol_siz54) (fun p => p.1 ≠ []) (fun x y => Sp.cmpI (Sp.lead x) (Sp.lead y)) (fun _ => rfl) (swo_of (fun x y => Sp.lead x < Sp.lead y) (fun x y => by unfold Go.Proofs.ltOf; rw [decide_eq_true_iff]; exact Sp.cmpI_abs.1) (fun x => by omega) (fun x y z => by omega) (fun x y z => by omega)) (F := 115) (by unfold IsFn; kernel_rfl) (fun x y hx hy => solve1_spec x y hx hy) u 54 32 (Sp.rowsTo l l.length) (Sp.sortL (Sp.rowsTo l l.length)) hred.1.ne (fun ys hp hs => Sp.sortL_uniq hred.1 ys hp hs)) ⟨_, _, rfl, (Sees.of rfl), ⟨_, _, rfl, (Sees.of rfl), rfl⟩⟩ ⟨rfl, trivial⟩ rfl rfl rfl rfl rfl rfl) ?_
        refine snil ?_
        refine f_seq ?_
        refine f_region ?_
        refine scons (CStep.step (PStep.c (p_move (y := .val _) rfl (Sees.of rfl) rfl)) rfl rfl rfl rfl) ?_
        refine scons (r_make (m := m) (f := D.bool) (z := false) (ob := 10091) rfl wSol_isl31 wSol_siz4 wSol_byt4 wSol_zer4 rfl rfl rfl (fun _ _ => rfl) (Sees.of rfl) (by omega) (by omega) rfl rfl rfl rfl rfl) ?_
        refine scons (CStep.step (PStep.c (p_assign (y := .row _ _) rfl (Sees.of rfl) rfl)) rfl rfl rfl rfl) ?_
        refine snil ?_
        refine f_seq ?_
        refine f_seq ?_
        refine f_region ?_
        refine scons (CStep.step (PStep.c (p_move (y := .row _ _) rfl (Sees.of rfl) rfl)) rfl rfl rfl rfl) ?_
        refine scons (CStep.step (PStep.c (p_lenR rfl wSol_isl58 (Sees.of rfl) rfl)) rfl rfl rfl rfl) ?_
        refine scons (CStep.step (PStep.c (p_move (y := .val _) rfl (Sees.of rfl) rfl)) rfl rfl rfl rfl) ?_
        refine snil ?_
        refine f_block ?_
        refine f_loop (α := Nat) (fun j => j ≤ (Sp.sortL (Sp.rowsTo l l.length)).length) (fun j => [(94, iv j), (92, .row 30000 u), (93, iv (Sp.sortL (Sp.rowsTo l l.length)).length), (16, .row 10091 0), (10091, .arr 0 4 1 1 D.bool false (Sp.asgTo m (Sp.sortL (Sp.rowsTo l l.length)) j)), (0, iv m), (7, .ref 10007 0 0), (10007, .box 0 (.ccons (iv 0) (.ccons (iv 0) .cnil))), (9, .row 30000 u), (30000, .arr u 54 2 32 dPar ([], false) (Sp.sortL (Sp.rowsTo l l.length)))]) (fun j => (Sp.sortL (Sp.rowsTo l l.length)).length - j) 0 ?_ ?_ ?_
        · exact Nat.zero_le _
        · exact le_ofL ⟨rfl, rfl, rfl, rfl, rfl, rfl, rfl, rfl, rfl, rfl, trivial⟩ rfl
        · rintro j hj
          have hzl : (Sp.sortL (Sp.rowsTo l l.length)).length = (Sp.rowsTo l l.length).length := List.length_mergeSort _
          refine f_seq ?_
          refine f_region ?_
          refine scons (CStep.step (PStep.c (p_lss rfl (Sees.of rfl) (Sees.of rfl))) rfl rfl rfl rfl) ?_
          refine snil ?_
          refine f_seq ?_
          refine f_cond rfl ?_ ?_
          · intro hc9
            try simp only [bs] at hc9
            refine f_skip ?_
            refine f_seq ?_
            refine f_block ?_
            refine f_seq ?_
            refine f_region ?_
            refine scons (CStep.step (PStep.c ((by first | exact p_indexR rfl wSol_isl58 wSol_siz54 (Sees.of rfl) rfl (Sees.of rfl) (by omega) | exact p_indexRZ rfl wSol_isl58 wSol_siz54 (Sees.of rfl) rfl (Sees.of rfl) (by omega) (by omega)))) rfl rfl rfl rfl) ?_
            refine scons (CStep.step (PStep.c (p_loadES rfl wSol_agg54 wSol_siz54 (Sees.of rfl) rfl (by omega) (fun _ => rfl))) rfl rfl rfl rfl) ?_
            refine scons (r_alloc (ob := 10018) rfl wSol_zer54 rfl rfl rfl rfl rfl rfl) ?_
            refine scons (r_storeS rfl wSol_siz54 rfl rfl rfl (Sees.of rfl) rfl (Sees.of rfl) rfl rfl rfl rfl) ?_
            refine snil ?_
            have hzj := Sp.getD_mem (Sp.sortL (Sp.rowsTo l l.length)) j ([], false) (by omega)
            have hzr := Sp.red_perm (List.mergeSort_perm (Sp.rowsTo l l.length) (fun x y => decide (Sp.lead x ≤ Sp.lead y))) hred.1
            have hz0 := List.length_pos_iff.2 (hzr.ne _ hzj)
            have hz1 : 1 ≤ ((Sp.sortL (Sp.rowsTo l l.length)).getD j ([], false)).1.getD (nat_lit 0) 0 ∧ ((Sp.sortL (Sp.rowsTo l l.length)).getD j ([], false)).1.getD (nat_lit 0) 0 ≤ m := (hzr.inc _ hzj).1 _ (Sp.lead_mem (hzr.ne _ hzj))
            have hal := Sp.asgTo_len m (Sp.sortL (Sp.rowsTo l l.length)) j
            refine f_draw wSol_mix (by kernel_rfl) ?_
            refine dcons (CStep.step (PStep.c (p_move (y := .row _ _) rfl (Sees.of rfl) rfl)) rfl rfl rfl rfl) ?_
            refine dcons (CStep.step (PStep.c (p_fieldRef rfl wSol_fld54_0 wSol_siz25 rfl (Sees.of rfl) rfl)) rfl rfl rfl rfl) ?_
            refine dcons (CStep.step (PStep.c (p_loadB (y := .val _) rfl wSol_agg25 (Sees.of rfl) rfl rfl rfl rfl)) rfl rfl rfl rfl) ?_
            refine dcons (CStep.step (PStep.c ((by first | exact p_indexN rfl wSol_isl25 wSol_siz3 (Sees.of rfl) (Sees.of rfl) (by omega) | exact p_index rfl wSol_isl25 wSol_siz3 (Sees.of rfl) (Sees.of rfl) (by omega) (by omega)))) rfl rfl rfl rfl) ?_
            refine dcons (CStep.step (PStep.c (p_load rfl wSol_agg3 (Sees.of rfl) rfl)) rfl rfl rfl rfl) ?_
            refine dcons (CStep.step (PStep.c (p_sub rfl (Sees.of rfl) (Sees.of rfl) (by omega))) rfl rfl rfl rfl) ?_
            refine dcons (CStep.step (PStep.c (p_fieldRef rfl wSol_fld54_1 wSol_siz4 rfl (Sees.of rfl) rfl)) rfl rfl rfl rfl) ?_
            refine dcons (CStep.step (PStep.c (p_loadB (y := .val _) rfl wSol_agg4 (Sees.of rfl) rfl rfl rfl rfl)) rfl rfl rfl rfl) ?_
            refine dcons (CStep.step (PStep.c ((by first | exact p_indexR rfl wSol_isl31 wSol_siz4 (Sees.of rfl) rfl (Sees.of rfl) (by omega) | exact p_indexRZ rfl wSol_isl31 wSol_siz4 (Sees.of rfl) rfl (Sees.of rfl) (by omega) (by omega)))) rfl rfl rfl rfl) ?_
            refine dcons (r_storeE rfl wSol_siz4 rfl rfl rfl (Sees.of rfl) rfl (by omega) (Sees.of rfl) rfl) ?_
            refine dnil (by kernel_rfl) ?_
            refine f_nil ?_
            show AWs _ _ _ _ _
            refine f_region ?_
            refine scons (CStep.step (PStep.c (p_add rfl (Sees.of rfl) (Sees.of rfl) (by omega))) rfl rfl rfl rfl) ?_
            refine scons (CStep.step (PStep.c (p_move (y := .val _) rfl (Sees.of rfl) rfl)) rfl rfl rfl rfl) ?_
            refine snil ?_
            refine f_back ⟨j + 1, ?_, ?_, le_ofL ⟨rfl, rfl, rfl, rfl, rfl, rfl, rfl, rfl, rfl, rfl, trivial⟩ rfl⟩
            · omega
            · omega
          · intro hc9
            try simp only [bs] at hc9
            refine f_exit ?_
            show AWs _ _ _ _ _
            refine f_seq ?_
            refine f_region ?_
            refine scons (CStep.step (PStep.c (p_move (y := .row _ _) rfl (Sees.of rfl) rfl)) rfl rfl rfl rfl) ?_
            refine scons (CStep.step (PStep.c (p_move (y := .row _ _) rfl (Sees.of rfl) rfl)) rfl rfl rfl rfl) ?_
            refine scons (CStep.step (PStep.c (p_build rfl wSol_plc28 wSol_zer28 (by decide) wSol_zch28 rfl rfl)) rfl rfl rfl rfl) ?_
            refine scons (CStep.step (PStep.c (p_assign (y := .val _) rfl (Sees.of rfl) rfl)) rfl rfl rfl rfl) ?_
            refine scons (CStep.step (PStep.c (p_assign (y := .row _ _) rfl (Sees.of rfl) rfl)) rfl rfl rfl rfl) ?_
            refine scons (CStep.step (PStep.c (p_assign (y := .row _ _) rfl (Sees.of rfl) rfl)) rfl rfl rfl rfl) ?_
            refine scons (r_storeS rfl wSol_siz28 rfl rfl rfl (Sees.of rfl) rfl (Sees.of rfl) rfl rfl rfl rfl) ?_
            refine snil ?_
            refine f_ret ?_
            refine ends_ret (res_eq (res4 rfl (res_tmp rfl (Sees.of rfl)) (res_row rfl rfl rfl) (res_row rfl rfl rfl) (res_cell (by rfl) rfl rfl wSol_agg28 wSol_siz28 rfl rfl)) ?_)
            obtain rfl : j = (Sp.sortL (Sp.rowsTo l l.length)).length := by omega
            rw [Sp.solveOf_yes hc1 hnb]
            all_goals rfl

set_option maxHeartbeats 2000000 in
theorem solveR_spec (m : Nat) (l : List (List Int × Bool)) (hm : m ≤ 120) (hll : l.length ≤ 400) (hinc : Sp.Incs m l) :
    Spec Go.Proofs.Try.prog 57 [iv m, .val (pars l)] (pars (Sp.solveR m l)) := by
  refine spec_of' Go.Proofs.Try.func57 rfl Go.Proofs.Try.ntmps57 rfl ?_
  refine f_seq ?_
  refine f_region ?_
  refine scons (CStep.step (PStep.c (p_assign (y := .emp) rfl (Sees.of rfl) rfl)) rfl rfl rfl rfl) ?_
  refine snil ?_
  refine f_seq ?_
  refine f_region ?_
  refine scons (r_buildRow (f := dPar) (za := ([], false)) (xs := []) (by_ := 32) (ob := 10014) rfl rfl wSol_isl58 wSol_siz54 wSol_zer54 rfl rfl (by decide) rfl rfl rfl rfl rfl rfl) ?_
  refine scons (CStep.step (PStep.c (p_move (y := .val _) rfl (Sees.of rfl) rfl)) rfl rfl rfl rfl) ?_
  refine scons (r_appendR (ob := 10014) rfl wSol_isl58 wSol_siz54 wSol_byt54 wSol_zer54 rfl rfl (Sees.of rfl) rfl (Sees.of rfl) (by simp only [List.length_cons, List.length_nil, List.length_append]; omega) (by simp only [List.length_cons, List.length_nil, List.length_append]; omega) rfl rfl rfl rfl rfl) ?_
  refine scons (CStep.step (PStep.c (p_assign (y := .row _ _) rfl (Sees.of rfl) rfl)) rfl rfl rfl rfl) ?_
  refine snil ?_
  refine f_seq ?_
  refine f_region ?_
  refine scons (CStep.step (PStep.c (p_assign (y := .emp) rfl (Sees.of rfl) rfl)) rfl rfl rfl rfl) ?_
  refine snil ?_
  refine f_seq ?_
  refine f_seq ?_
  refine f_le (GLe.le (g_freeze (k := 5) (o1 := 10014) rfl rfl rfl rfl)) ?_ (by simp)
  refine f_region ?_
  refine scons (CStep.step (PStep.c (p_assign (y := .val _) rfl (Sees.of rfl) rfl)) rfl rfl rfl rfl) ?_
  refine snil ?_
  refine f_block ?_
  refine f_loop (α := Nat × Nat) (fun (k, w) => k ≤ m) (fun (k, w) => [(7, iv ((k : Int) + 1)), (5, .val (pars (Sp.refTo l k).1)), (6, .row 30002 w), (30002, .arr w 54 2 32 dPar ([], false) (Sp.refTo l k).2), (0, iv m), (4, .emp)]) (fun (k, w) => m - k) (0, 0) ?_ ?_ ?_
  · exact Nat.zero_le _
  · exact Le.trans (GLe.le (g_adopt (ob := 30002) (k := 6) 54 2 32 dPar ([], false) rfl rfl rfl rfl)) (le_ofL ⟨rfl, rfl, rfl, rfl, rfl, rfl, trivial⟩ rfl)
  · rintro ⟨k, w⟩ hk
    have hk : k ≤ m := hk
    have hri0 := Sp.ref_inv hinc k
    have hlen := hri0.len
    refine f_seq ?_
    refine f_seq ?_
    refine f_region ?_
    refine scons (CStep.step (PStep.c (p_move (y := .val _) rfl (Sees.of rfl) rfl)) rfl rfl rfl rfl) ?_
    refine scons (CStep.step (PStep.c (p_move (y := .val _) rfl (Sees.of rfl) rfl)) rfl rfl rfl rfl) ?_
    refine scons (CStep.step (PStep.c (p_leq rfl (Sees.of rfl) (Sees.of rfl))) rfl rfl rfl rfl) ?_
    refine snil ?_
    refine f_cond rfl ?_ ?_
    · intro hc1
      try simp only [bs] at hc1
      refine f_skip ?_
      refine f_seq ?_
      refine f_block ?_
      refine f_seq ?_
      refine f_region ?_
      refine scons (CStep.step (PStep.c (p_assign (y := .val _) rfl (Sees.of rfl) rfl)) rfl rfl rfl rfl) ?_
      refine snil ?_
      refine f_seq ?_
      refine f_seq ?_
      refine f_region ?_
      refine scons (CStep.step (PStep.c (p_assign (y := .val _) rfl (Sees.of rfl) rfl)) rfl rfl rfl rfl) ?_
      refine snil ?_
      refine f_block ?_
      refine f_loop (α := Nat) (fun i => i ≤ (Sp.refTo l k).1.length) (fun i => [(9, iv i), (8, iv (Sp.pickTo ((k : Int) + 1) (Sp.refTo l k).1 i)), (7, iv ((k : Int) + 1)), (5, .val (pars (Sp.refTo l k).1)), (6, .row 30002 w), (30002, .arr w 54 2 32 dPar ([], false) (Sp.refTo l k).2), (0, iv m), (4, .emp)]) (fun i => (Sp.refTo l k).1.length - i) 0 ?_ ?_ ?_
      · exact Nat.zero_le _
      · exact le_ofL ⟨rfl, rfl, rfl, rfl, rfl, rfl, rfl, rfl, trivial⟩ rfl
      · rintro i hi
        refine f_seq ?_
        refine f_seq ?_
        refine f_region ?_
        refine scons (CStep.step (PStep.c (p_move (y := .val _) rfl (Sees.of rfl) rfl)) rfl rfl rfl rfl) ?_
        refine scons (CStep.step (PStep.c (p_move (y := .val _) rfl (Sees.of rfl) rfl)) rfl rfl rfl rfl) ?_
        refine scons (CStep.step (PStep.c (p_len rfl wSol_isl58 (Sees.of rfl))) rfl rfl rfl rfl) ?_
        refine scons (CStep.step (PStep.c (p_lss rfl (Sees.of rfl) (Sees.of rfl))) rfl rfl rfl rfl) ?_
        refine snil ?_
        refine f_cond rfl ?_ ?_
        · intro hc2
          try simp only [bs] at hc2
          refine f_skip ?_
          refine f_seq ?_
          refine f_block ?_
          refine f_seq ?_
          refine f_region ?_
          refine scons (CStep.step (PStep.c (p_move (y := .val _) rfl (Sees.of rfl) rfl)) rfl rfl rfl rfl) ?_
          refine scons (CStep.step (PStep.c (p_lss rfl (Sees.of rfl) (Sees.of rfl))) rfl rfl rfl rfl) ?_
          refine scons (CStep.step (PStep.c (p_move (y := .val _) rfl (Sees.of rfl) rfl)) rfl rfl rfl rfl) ?_
          refine scons (CStep.guard rfl rfl rfl (fun hg0 => PStep.c (p_move (y := .val _) rfl (Sees.of rfl) rfl)) rfl rfl rfl rfl rfl) ?_
          refine scons (CStep.guard rfl rfl rfl (fun hg0 => PStep.c (p_move (y := .val _) rfl (Sees.of rfl) rfl)) rfl rfl rfl rfl rfl) ?_
          refine scons (CStep.guard rfl rfl rfl (fun hg0 => by have hp0 := hg0; (try simp only [bs] at hp0); exact PStep.c ((by first | exact p_indexN rfl wSol_isl58 wSol_siz54 (Sees.gv' rfl hg0) (Sees.gv' rfl hg0) (by omega) | exact p_index rfl wSol_isl58 wSol_siz54 (Sees.gv' rfl hg0) (Sees.gv' rfl hg0) (by omega) (by omega)))) rfl rfl rfl rfl rfl) ?_
          refine scons (CStep.guard rfl rfl rfl (fun hg0 => PStep.c (p_fieldAddr rfl wSol_fld54_0 wSol_siz25 (by decide) (Sees.gv' rfl hg0) rfl rfl)) rfl rfl rfl rfl rfl) ?_
          refine scons (CStep.guard rfl rfl rfl (fun hg0 => PStep.c (p_load rfl wSol_agg25 (Sees.gv' rfl hg0) rfl)) rfl rfl rfl rfl rfl) ?_
          refine scons (CStep.guard rfl rfl rfl (fun hg0 => PStep.c (p_move (y := .val _) rfl (Sees.of rfl) rfl)) rfl rfl rfl rfl rfl) ?_
          refine scons (CStep.guard rfl rfl rfl (fun hg0 => c_call rfl wSol_isf74 ⟨_, _, rfl, (Sees.gv' rfl hg0), rfl, ⟨_, _, rfl, (Sees.gv' rfl hg0), rfl, rfl⟩⟩ (has_spec _ _)) rfl rfl rfl rfl rfl) ?_
          refine scons (CStep.step (PStep.c (p_and rfl (Sees.of rfl) (fun h => Sees.gv' rfl (beq_of_eq h)) (Sees.of rfl))) rfl rfl rfl rfl) ?_
          refine snil ?_
          refine f_cond rfl ?_ ?_
          · intro hc3
            try simp only [bs] at hc3
            refine f_region ?_
            refine scons (CStep.step (PStep.c (p_move (y := .val _) rfl (Sees.of rfl) rfl)) rfl rfl rfl rfl) ?_
            refine scons (CStep.step (PStep.c (p_assign (y := .val _) rfl (Sees.of rfl) rfl)) rfl rfl rfl rfl) ?_
            refine snil ?_
            refine f_nil ?_
            show AWs _ _ _ _ _
            refine f_region ?_
            refine scons (CStep.step (PStep.c (p_move (y := .val _) rfl (Sees.of rfl) rfl)) rfl rfl rfl rfl) ?_
            refine scons (CStep.step (PStep.c (p_add rfl (Sees.of rfl) (Sees.of rfl) (by omega))) rfl rfl rfl rfl) ?_
            refine scons (CStep.step (PStep.c (p_assign (y := .val _) rfl (Sees.of rfl) rfl)) rfl rfl rfl rfl) ?_
            refine snil ?_
            refine f_back ⟨i + 1, ?_, ?_, le_ofL ⟨rfl, (by rw [Sp.pickTo, if_pos ⟨by omega, hc3.2⟩]; rfl), rfl, rfl, rfl, rfl, rfl, rfl, trivial⟩ rfl⟩
            · omega
            · omega
          · intro hc3
            try simp only [bs] at hc3
            refine f_skip ?_
            refine f_nil ?_
            show AWs _ _ _ _ _
            refine f_region ?_
            refine scons (CStep.step (PStep.c (p_move (y := .val _) rfl (Sees.of rfl) rfl)) rfl rfl rfl rfl) ?_
            refine scons (CStep.step (PStep.c (p_add rfl (Sees.of rfl) (Sees.of rfl) (by omega))) rfl rfl rfl rfl) ?_
            refine scons (CStep.step (PStep.c (p_assign (y := .val _) rfl (Sees.of rfl) rfl)) rfl rfl rfl rfl) ?_
            refine snil ?_
            refine f_back ⟨i + 1, ?_, ?_, le_ofL ⟨rfl, (by rw [Sp.pickTo, if_neg (fun h => hc3.elim (fun h2 => by omega) (fun h2 => h2 h.2))]; rfl), rfl, rfl, rfl, rfl, rfl, rfl, trivial⟩ rfl⟩
            · omega
            · omega
        · intro hc2
          try simp only [bs] at hc2
          refine f_exit ?_
          show AWs _ _ _ _ _
          refine f_seq ?_
          refine f_seq ?_
          obtain rfl : i = (Sp.refTo l k).1.length := by omega
          refine f_region ?_
          refine scons (CStep.step (PStep.c (p_move (y := .val _) rfl (Sees.of rfl) rfl)) rfl rfl rfl rfl) ?_
          refine scons (CStep.step (PStep.c (p_lss rfl (Sees.of rfl) (Sees.of rfl))) rfl rfl rfl rfl) ?_
          refine snil ?_
          refine f_cond rfl ?_ ?_
          · intro hc4
            try simp only [bs] at hc4
            refine f_exit ?_
            show AWs _ _ _ _ _
            refine f_region ?_
            refine scons (CStep.step (PStep.c (p_move (y := .val _) rfl (Sees.of rfl) rfl)) rfl rfl rfl rfl) ?_
            refine scons (CStep.step (PStep.c (p_add rfl (Sees.of rfl) (Sees.of rfl) (by omega))) rfl rfl rfl rfl) ?_
            refine scons (CStep.step (PStep.c (p_assign (y := .val _) rfl (Sees.of rfl) rfl)) rfl rfl rfl rfl) ?_
            refine snil ?_
            refine f_back ⟨(k + 1, w), ?_, ?_, le_ofL ⟨(by show AV.val (.int .i64 ((k : Int) + 1 + 1)) = _; exact congrArg (fun q => AV.val (.int .i64 q)) (by omega)), (by rw [Sp.ref_no (by omega)]; rfl), rfl, (by rw [Sp.ref_no (by omega)]; rfl), rfl, rfl, trivial⟩ rfl⟩
            · show k + 1 ≤ m
              omega
            · show m - (k + 1) < m - k
              omega
          · intro hc4
            try simp only [bs] at hc4
            refine f_skip ?_
            refine f_seq ?_
            have hpk := Sp.pick_some (v := ((k : Int) + 1)) (L := (Sp.refTo l k).1) (Sp.refTo l k).1.length (by omega)
            obtain ⟨a, ha⟩ : ∃ a : Nat, (Sp.pickTo ((k : Int) + 1) (Sp.refTo l k).1 (Sp.refTo l k).1.length) = a := ⟨(Sp.pickTo ((k : Int) + 1) (Sp.refTo l k).1 (Sp.refTo l k).1.length).toNat, by omega⟩
            rw [ha] at hpk
            rw [ha]
            have hal : a < (Sp.refTo l k).1.length := by omega
            have hpi := hri0.inc _ (Sp.getD_mem (Sp.refTo l k).1 a ([], false) hal)
            have hrl := Sp.rest_len hal
            refine f_region ?_
            refine scons (CStep.step (PStep.c (p_move (y := .val _) rfl (Sees.of rfl) rfl)) rfl rfl rfl rfl) ?_
            refine scons (CStep.step (PStep.c (p_move (y := .val _) rfl (Sees.of rfl) rfl)) rfl rfl rfl rfl) ?_
            refine scons (CStep.step (PStep.c ((by first | exact p_indexN rfl wSol_isl58 wSol_siz54 (Sees.of rfl) (Sees.of rfl) (by omega) | exact p_index rfl wSol_isl58 wSol_siz54 (Sees.of rfl) (Sees.of rfl) (by omega) (by omega)))) rfl rfl rfl rfl) ?_
            refine scons (CStep.step (PStep.c (p_loadS rfl wSol_agg54 wSol_siz54 (Sees.of rfl) ⟨rfl, fun h => R_len rfl h⟩)) rfl rfl rfl rfl) ?_
            refine scons (r_alloc (ob := 10010) rfl wSol_zer54 rfl rfl rfl rfl rfl rfl) ?_
            refine scons (r_storeS rfl wSol_siz54 rfl rfl rfl (Sees.of rfl) rfl (Sees.of rfl) rfl rfl rfl rfl) ?_
            refine snil ?_
            refine f_seq ?_
            refine f_draw wSol_mix (by kernel_rfl) ?_
            refine dcons (r_buildRow (f := dPar) (za := ([], false)) (xs := []) (by_ := 32) (ob := 10046) rfl rfl wSol_isl58 wSol_siz54 wSol_zer54 rfl rfl (by decide) rfl rfl rfl rfl rfl rfl) ?_
            refine dcons (CStep.step (PStep.c (p_move (y := .val _) rfl (Sees.of rfl) rfl)) rfl rfl rfl rfl) ?_
            refine dcons (CStep.step (PStep.c (p_move (y := .val _) rfl (Sees.of rfl) rfl)) rfl rfl rfl rfl) ?_
            refine dcons (CStep.step (PStep.c (p_slice  rfl wSol_isl58 wSol_siz54 (Sees.of rfl) rfl (Sees.of rfl) (by omega) (by omega))) rfl rfl rfl rfl) ?_
            refine dcons (r_appendR (ob := 10050) rfl wSol_isl58 wSol_siz54 wSol_byt54 wSol_zer54 rfl rfl (Sees.of rfl) rfl (Sees.of rfl) (by simp only [List.length_append, List.length_take, List.length_drop, List.length_nil]; omega) (by simp only [List.length_append, List.length_take, List.length_drop, List.length_nil]; omega) rfl rfl rfl rfl rfl) ?_
            refine dcons (CStep.step (PStep.c (p_move (y := .val _) rfl (Sees.of rfl) rfl)) rfl rfl rfl rfl) ?_
            refine dcons (CStep.step (PStep.c (p_move (y := .val _) rfl (Sees.of rfl) rfl)) rfl rfl rfl rfl) ?_
            refine dcons (CStep.step (PStep.c (p_add rfl (Sees.of rfl) (Sees.of rfl) (by omega))) rfl rfl rfl rfl) ?_
            refine dcons (CStep.step (PStep.c (p_slice (l := a + 1) rfl wSol_isl58 wSol_siz54 (Sees.of rfl) (Sees.of rfl) rfl (by omega) (by omega))) rfl rfl rfl rfl) ?_
            refine dcons (r_appendR (ob := 10055) rfl wSol_isl58 wSol_siz54 wSol_byt54 wSol_zer54 rfl rfl (Sees.of rfl) rfl (Sees.of rfl) (by simp only [List.length_append, List.length_take, List.length_drop, List.length_nil]; omega) (by simp only [List.length_append, List.length_take, List.length_drop, List.length_nil]; omega) rfl rfl rfl rfl rfl) ?_
            refine dcons (CStep.step (PStep.c (p_assign (y := .row _ _) rfl (Sees.of rfl) rfl)) rfl rfl rfl rfl) ?_
            refine dnil (by kernel_rfl) ?_
            refine f_seq ?_
            refine f_seq ?_
            refine f_region ?_
            refine scons (CStep.step (PStep.c (p_assign (y := .val _) rfl (Sees.of rfl) rfl)) rfl rfl rfl rfl) ?_
            refine snil ?_
            refine f_block ?_
            refine f_loop (α := Nat) (fun j => j ≤ (Sp.rest (Sp.refTo l k).1 a).length) (fun j => [(11, iv j), (10, .ref 10010 0 0), (10010, .box 0 (.ccons (.val (ints ((Sp.refTo l k).1.getD a ([], false)).1)) (.ccons (bv ((Sp.refTo l k).1.getD a ([], false)).2) .cnil))), (7, iv ((k : Int) + 1)), (5, .row 10055 0), (10055, .arr 0 54 2 32 dPar ([], false) (Sp.upTo (Sp.clrV ((k : Int) + 1) ((Sp.refTo l k).1.getD a ([], false))) (Sp.rest (Sp.refTo l k).1 a) j)), (6, .row 30002 w), (30002, .arr w 54 2 32 dPar ([], false) (Sp.refTo l k).2), (0, iv m), (4, .emp)]) (fun j => (Sp.rest (Sp.refTo l k).1 a).length - j) 0 ?_ ?_ ?_
            · exact Nat.zero_le _
            · exact le_ofL ⟨rfl, rfl, rfl, rfl, rfl, (by rw [Sp.upTo_zero, ← Sp.rest_form]; rfl), rfl, rfl, rfl, rfl, trivial⟩ rfl
            · rintro j hj
              have hul := Sp.upTo_len (Sp.clrV ((k : Int) + 1) ((Sp.refTo l k).1.getD a ([], false))) (Sp.rest (Sp.refTo l k).1 a) j
              refine f_seq ?_
              refine f_seq ?_
              refine f_region ?_
              refine scons (CStep.step (PStep.c (p_move (y := .val _) rfl (Sees.of rfl) rfl)) rfl rfl rfl rfl) ?_
              refine scons (CStep.step (PStep.c (p_move (y := .row _ _) rfl (Sees.of rfl) rfl)) rfl rfl rfl rfl) ?_
              refine scons (CStep.step (PStep.c (p_lenR rfl wSol_isl58 (Sees.of rfl) rfl)) rfl rfl rfl rfl) ?_
              refine scons (CStep.step (PStep.c (p_lss rfl (Sees.of rfl) (Sees.of rfl))) rfl rfl rfl rfl) ?_
              refine snil ?_
              refine f_cond rfl ?_ ?_
              · intro hc5
                try simp only [bs] at hc5
                refine f_skip ?_
                refine f_seq ?_
                refine f_block ?_
                refine f_seq ?_
                have hup := Sp.upTo_at (Sp.clrV ((k : Int) + 1) ((Sp.refTo l k).1.getD a ([], false))) (Sp.rest (Sp.refTo l k).1 a) (i := j) (by omega) ([], false)
                have hri : Sp.Incs m (Sp.rest (Sp.refTo l k).1 a) := fun y hy => hri0.inc y ((Sp.rest_mem hal y).2 (.inr hy))
                refine f_region ?_
                refine scons (CStep.step (PStep.c (p_move (y := .row _ _) rfl (Sees.of rfl) rfl)) rfl rfl rfl rfl) ?_
                refine scons (CStep.step (PStep.c (p_move (y := .val _) rfl (Sees.of rfl) rfl)) rfl rfl rfl rfl) ?_
                refine scons (CStep.step (PStep.c ((by first | exact p_indexR rfl wSol_isl58 wSol_siz54 (Sees.of rfl) rfl (Sees.of rfl) (by omega) | exact p_indexRZ rfl wSol_isl58 wSol_siz54 (Sees.of rfl) rfl (Sees.of rfl) (by omega) (by omega)))) rfl rfl rfl rfl) ?_
                refine scons (CStep.step (PStep.c (p_fieldE rfl wSol_fld54_0 wSol_siz25 rfl (Sees.of rfl) rfl (by omega))) rfl rfl rfl rfl) ?_
                refine scons (CStep.step (PStep.c (p_loadF (sz := 2) (off := 0) rfl wSol_agg25 (Sees.of rfl) rfl (by omega) rfl rfl rfl rfl)) rfl rfl rfl rfl) ?_
                refine scons (CStep.step (PStep.c (p_move (y := .val _) rfl (Sees.of rfl) rfl)) rfl rfl rfl rfl) ?_
                refine scons (CStep.step (c_call rfl wSol_isf74 ⟨_, _, rfl, (Sees.of rfl), rfl, ⟨_, _, rfl, (Sees.of rfl), rfl, rfl⟩⟩ (has_spec _ _)) rfl rfl rfl rfl) ?_
                refine snil ?_
                refine f_cond rfl ?_ ?_
                · intro hc6
                  try simp only [bs] at hc6
                  refine f_draw wSol_mix (by kernel_rfl) ?_
                  refine dcons (CStep.step (PStep.c (p_move (y := .row _ _) rfl (Sees.of rfl) rfl)) rfl rfl rfl rfl) ?_
                  refine dcons (CStep.step (PStep.c (p_move (y := .val _) rfl (Sees.of rfl) rfl)) rfl rfl rfl rfl) ?_
                  refine dcons (CStep.step (PStep.c (p_move (y := .val _) rfl (Sees.of rfl) rfl)) rfl rfl rfl rfl) ?_
                  refine dcons (CStep.step (PStep.c (p_move (y := .row _ _) rfl (Sees.of rfl) rfl)) rfl rfl rfl rfl) ?_
                  refine dcons (CStep.step (PStep.c (p_move (y := .val _) rfl (Sees.of rfl) rfl)) rfl rfl rfl rfl) ?_
                  refine dcons (CStep.step (PStep.c ((by first | exact p_indexR rfl wSol_isl58 wSol_siz54 (Sees.of rfl) rfl (Sees.of rfl) (by omega) | exact p_indexRZ rfl wSol_isl58 wSol_siz54 (Sees.of rfl) rfl (Sees.of rfl) (by omega) (by omega)))) rfl rfl rfl rfl) ?_
                  refine dcons (CStep.step (PStep.c (p_loadES rfl wSol_agg54 wSol_siz54 (Sees.of rfl) rfl (by omega) (fun _ => rfl))) rfl rfl rfl rfl) ?_
                  refine dcons (CStep.step (PStep.c (p_loadBS rfl wSol_agg54 wSol_siz54 (Sees.of rfl) rfl rfl rfl)) rfl rfl rfl rfl) ?_
                  refine dcons (CStep.step (c_call rfl wSol_isf117 ⟨_, _, rfl, (Sees.of rfl), rfl, ⟨_, _, rfl, (Sees.of rfl), rfl, ⟨_, _, rfl, (Sees.of rfl), rfl, rfl⟩⟩⟩ (parSumR_spec m ((Sp.upTo (Sp.clrV ((k : Int) + 1) ((Sp.refTo l k).1.getD a ([], false))) (Sp.rest (Sp.refTo l k).1 a) j).getD j ([], false)) ((Sp.refTo l k).1.getD a ([], false)) (by omega) (by rw [hup]; exact hri _ (Sp.getD_mem (Sp.rest (Sp.refTo l k).1 a) j ([], false) (by omega))) hpi)) rfl rfl rfl rfl) ?_
                  refine dcons (CStep.step (PStep.c ((by first | exact p_indexR rfl wSol_isl58 wSol_siz54 (Sees.of rfl) rfl (Sees.of rfl) (by omega) | exact p_indexRZ rfl wSol_isl58 wSol_siz54 (Sees.of rfl) rfl (Sees.of rfl) (by omega) (by omega)))) rfl rfl rfl rfl) ?_
                  refine dcons (r_storeEA rfl wSol_siz54 rfl rfl rfl (Sees.of rfl) rfl (by omega) (Sees.of rfl) rfl rfl rfl) ?_
                  refine dnil (by kernel_rfl) ?_
                  refine f_nil ?_
                  show AWs _ _ _ _ _
                  refine f_region ?_
                  refine scons (CStep.step (PStep.c (p_move (y := .val _) rfl (Sees.of rfl) rfl)) rfl rfl rfl rfl) ?_
                  refine scons (CStep.step (PStep.c (p_add rfl (Sees.of rfl) (Sees.of rfl) (by omega))) rfl rfl rfl rfl) ?_
                  refine scons (CStep.step (PStep.c (p_assign (y := .val _) rfl (Sees.of rfl) rfl)) rfl rfl rfl rfl) ?_
                  refine snil ?_
                  refine f_back ⟨j + 1, ?_, ?_, le_ofL ⟨rfl, rfl, rfl, rfl, rfl, (by rw [← Sp.upTo_set (Sp.clrV ((k : Int) + 1) ((Sp.refTo l k).1.getD a ([], false))) (Sp.rest (Sp.refTo l k).1 a) (by omega) ([], false), Sp.clrV_yes (by rw [← hup]; exact hc6), ← hup]; rfl), rfl, rfl, rfl, rfl, trivial⟩ rfl⟩
                  · omega
                  · omega
                · intro hc6
                  try simp only [bs] at hc6
                  refine f_skip ?_
                  refine f_nil ?_
                  show AWs _ _ _ _ _
                  refine f_region ?_
                  refine scons (CStep.step (PStep.c (p_move (y := .val _) rfl (Sees.of rfl) rfl)) rfl rfl rfl rfl) ?_
                  refine scons (CStep.step (PStep.c (p_add rfl (Sees.of rfl) (Sees.of rfl) (by omega))) rfl rfl rfl rfl) ?_
                  refine scons (CStep.step (PStep.c (p_assign (y := .val _) rfl (Sees.of rfl) rfl)) rfl rfl rfl rfl) ?_
                  refine snil ?_
                  refine f_back ⟨j + 1, ?_, ?_, le_ofL ⟨rfl, rfl, rfl, rfl, rfl, (by rw [← Sp.upTo_same (Sp.clrV ((k : Int) + 1) ((Sp.refTo l k).1.getD a ([], false))) (Sp.rest (Sp.refTo l k).1 a) (by omega) ([], false) (Sp.clrV_no (by rw [← hup]; exact hc6))]; rfl), rfl, rfl, rfl, rfl, trivial⟩ rfl⟩
                  · omega
                  · omega
              · intro hc5
                try simp only [bs] at hc5
                refine f_exit ?_
                show AWs _ _ _ _ _
                refine f_seq ?_
                refine f_seq ?_
                refine f_region ?_
                refine scons (CStep.step (PStep.c (p_assign (y := .val _) rfl (Sees.of rfl) rfl)) rfl rfl rfl rfl) ?_
                refine snil ?_
                refine f_block ?_
                refine f_loop (α := Nat) (fun j => j ≤ (Sp.refTo l k).2.length) (fun j => [(12, iv j), (10, .ref 10010 0 0), (10010, .box 0 (.ccons (.val (ints ((Sp.refTo l k).1.getD a ([], false)).1)) (.ccons (bv ((Sp.refTo l k).1.getD a ([], false)).2) .cnil))), (7, iv ((k : Int) + 1)), (5, .row 10055 0), (10055, .arr 0 54 2 32 dPar ([], false) ((Sp.rest (Sp.refTo l k).1 a).map (Sp.clrV ((k : Int) + 1) ((Sp.refTo l k).1.getD a ([], false))))), (6, .row 30002 w), (30002, .arr w 54 2 32 dPar ([], false) (Sp.upTo (Sp.clrV ((k : Int) + 1) ((Sp.refTo l k).1.getD a ([], false))) (Sp.refTo l k).2 j)), (0, iv m), (4, .emp)]) (fun j => (Sp.refTo l k).2.length - j) 0 ?_ ?_ ?_
                · exact Nat.zero_le _
                · exact le_ofL ⟨rfl, rfl, rfl, rfl, rfl, (by rw [← Sp.upTo_end, show (Sp.rest (Sp.refTo l k).1 a).length = j by omega]; rfl), rfl, (by rw [Sp.upTo_zero]; rfl), rfl, rfl, trivial⟩ rfl
                · rintro j hj
                  have hul := Sp.upTo_len (Sp.clrV ((k : Int) + 1) ((Sp.refTo l k).1.getD a ([], false))) (Sp.refTo l k).2 j
                  refine f_seq ?_
                  refine f_seq ?_
                  refine f_region ?_
                  refine scons (CStep.step (PStep.c (p_move (y := .val _) rfl (Sees.of rfl) rfl)) rfl rfl rfl rfl) ?_
                  refine scons (CStep.step (PStep.c (p_move (y := .row _ _) rfl (Sees.of rfl) rfl)) rfl rfl rfl rfl) ?_
                  refine scons (CStep.step (PStep.c (p_lenR rfl wSol_isl58 (Sees.of rfl) rfl)) rfl rfl rfl rfl) ?_
                  refine scons (CStep.step (PStep.c (p_lss rfl (Sees.of rfl) (Sees.of rfl))) rfl rfl rfl rfl) ?_
                  refine snil ?_
                  refine f_cond rfl ?_ ?_
                  · intro hc7
                    try simp only [bs] at hc7
                    refine f_skip ?_
                    refine f_seq ?_
                    refine f_block ?_
                    refine f_seq ?_
                    have hup := Sp.upTo_at (Sp.clrV ((k : Int) + 1) ((Sp.refTo l k).1.getD a ([], false))) (Sp.refTo l k).2 (i := j) (by omega) ([], false)
                    have hri2 := hri0.red.inc
                    refine f_region ?_
                    refine scons (CStep.step (PStep.c (p_move (y := .row _ _) rfl (Sees.of rfl) rfl)) rfl rfl rfl rfl) ?_
                    refine scons (CStep.step (PStep.c (p_move (y := .val _) rfl (Sees.of rfl) rfl)) rfl rfl rfl rfl) ?_
                    refine scons (CStep.step (PStep.c ((by first | exact p_indexR rfl wSol_isl58 wSol_siz54 (Sees.of rfl) rfl (Sees.of rfl) (by omega) | exact p_indexRZ rfl wSol_isl58 wSol_siz54 (Sees.of rfl) rfl (Sees.of rfl) (by omega) (by omega)))) rfl rfl rfl rfl) ?_
                    refine scons (CStep.step (PStep.c (p_fieldE rfl wSol_fld54_0 wSol_siz25 rfl (Sees.of rfl) rfl (by omega))) rfl rfl rfl rfl) ?_
                    refine scons (CStep.step (PStep.c (p_loadF (sz := 2) (off := 0) rfl wSol_agg25 (Sees.of rfl) rfl (by omega) rfl rfl rfl rfl)) rfl rfl rfl rfl) ?_
                    refine scons (CStep.step (PStep.c (p_move (y := .val _) rfl (Sees.of rfl) rfl)) rfl rfl rfl rfl) ?_
                    refine scons (CStep.step (c_call rfl wSol_isf74 ⟨_, _, rfl, (Sees.of rfl), rfl, ⟨_, _, rfl, (Sees.of rfl), rfl, rfl⟩⟩ (has_spec _ _)) rfl rfl rfl rfl) ?_
                    refine snil ?_
                    refine f_cond rfl ?_ ?_
                    · intro hc8
                      try simp only [bs] at hc8
                      refine f_draw wSol_mix (by kernel_rfl) ?_
                      refine dcons (CStep.step (PStep.c (p_move (y := .row _ _) rfl (Sees.of rfl) rfl)) rfl rfl rfl rfl) ?_
                      refine dcons (CStep.step (PStep.c (p_move (y := .val _) rfl (Sees.of rfl) rfl)) rfl rfl rfl rfl) ?_
                      refine dcons (CStep.step (PStep.c (p_move (y := .val _) rfl (Sees.of rfl) rfl)) rfl rfl rfl rfl) ?_
                      refine dcons (CStep.step (PStep.c (p_move (y := .row _ _) rfl (Sees.of rfl) rfl)) rfl rfl rfl rfl) ?_
                      refine dcons (CStep.step (PStep.c (p_move (y := .val _) rfl (Sees.of rfl) rfl)) rfl rfl rfl rfl) ?_
                      refine dcons (CStep.step (PStep.c ((by first | exact p_indexR rfl wSol_isl58 wSol_siz54 (Sees.of rfl) rfl (Sees.of rfl) (by omega) | exact p_indexRZ rfl wSol_isl58 wSol_siz54 (Sees.of rfl) rfl (Sees.of rfl) (by omega) (by omega)))) rfl rfl rfl rfl) ?_
                      refine dcons (CStep.step (PStep.c (p_loadES rfl wSol_agg54 wSol_siz54 (Sees.of rfl) rfl (by omega) (fun _ => rfl))) rfl rfl rfl rfl) ?_
                      refine dcons (CStep.step (PStep.c (p_loadBS rfl wSol_agg54 wSol_siz54 (Sees.of rfl) rfl rfl rfl)) rfl rfl rfl rfl) ?_
                      refine dcons (CStep.step (c_call rfl wSol_isf117 ⟨_, _, rfl, (Sees.of rfl), rfl, ⟨_, _, rfl, (Sees.of rfl), rfl, ⟨_, _, rfl, (Sees.of rfl), rfl, rfl⟩⟩⟩ (parSumR_spec m ((Sp.upTo (Sp.clrV ((k : Int) + 1) ((Sp.refTo l k).1.getD a ([], false))) (Sp.refTo l k).2 j).getD j ([], false)) ((Sp.refTo l k).1.getD a ([], false)) (by omega) (by rw [hup]; exact hri2 _ (Sp.getD_mem (Sp.refTo l k).2 j ([], false) (by omega))) hpi)) rfl rfl rfl rfl) ?_
                      refine dcons (CStep.step (PStep.c ((by first | exact p_indexR rfl wSol_isl58 wSol_siz54 (Sees.of rfl) rfl (Sees.of rfl) (by omega) | exact p_indexRZ rfl wSol_isl58 wSol_siz54 (Sees.of rfl) rfl (Sees.of rfl) (by omega) (by omega)))) rfl rfl rfl rfl) ?_
                      refine dcons (r_storeEA rfl wSol_siz54 rfl rfl rfl (Sees.of rfl) rfl (by omega) (Sees.of rfl) rfl rfl rfl) ?_
                      refine dnil (by kernel_rfl) ?_
                      refine f_nil ?_
                      show AWs _ _ _ _ _
                      refine f_region ?_
                      refine scons (CStep.step (PStep.c (p_move (y := .val _) rfl (Sees.of rfl) rfl)) rfl rfl rfl rfl) ?_
                      refine scons (CStep.step (PStep.c (p_add rfl (Sees.of rfl) (Sees.of rfl) (by omega))) rfl rfl rfl rfl) ?_
                      refine scons (CStep.step (PStep.c (p_assign (y := .val _) rfl (Sees.of rfl) rfl)) rfl rfl rfl rfl) ?_
                      refine snil ?_
                      refine f_back ⟨j + 1, ?_, ?_, le_ofL ⟨rfl, rfl, rfl, rfl, rfl, rfl, rfl, (by rw [← Sp.upTo_set (Sp.clrV ((k : Int) + 1) ((Sp.refTo l k).1.getD a ([], false))) (Sp.refTo l k).2 (by omega) ([], false), Sp.clrV_yes (by rw [← hup]; exact hc8), ← hup]; rfl), rfl, rfl, trivial⟩ rfl⟩
                      · omega
                      · omega
                    · intro hc8
                      try simp only [bs] at hc8
                      refine f_skip ?_
                      refine f_nil ?_
                      show AWs _ _ _ _ _
                      refine f_region ?_
                      refine scons (CStep.step (PStep.c (p_move (y := .val _) rfl (Sees.of rfl) rfl)) rfl rfl rfl rfl) ?_
                      refine scons (CStep.step (PStep.c (p_add rfl (Sees.of rfl) (Sees.of rfl) (by omega))) rfl rfl rfl rfl) ?_
                      refine scons (CStep.step (PStep.c (p_assign (y := .val _) rfl (Sees.of rfl) rfl)) rfl rfl rfl rfl) ?_
                      refine snil ?_
                      refine f_back ⟨j + 1, ?_, ?_, le_ofL ⟨rfl, rfl, rfl, rfl, rfl, rfl, rfl, (by rw [← Sp.upTo_same (Sp.clrV ((k : Int) + 1) ((Sp.refTo l k).1.getD a ([], false))) (Sp.refTo l k).2 (by omega) ([], false) (Sp.clrV_no (by rw [← hup]; exact hc8))]; rfl), rfl, rfl, trivial⟩ rfl⟩
                      · omega
                      · omega
                  · intro hc7
                    try simp only [bs] at hc7
                    refine f_exit ?_
                    show AWs _ _ _ _ _
                    refine f_region ?_
                    refine scons (CStep.step (PStep.c (p_move (y := .row _ _) rfl (Sees.of rfl) rfl)) rfl rfl rfl rfl) ?_
                    refine scons (CStep.step (PStep.c (p_loadBS rfl wSol_agg54 wSol_siz54 (Sees.of rfl) rfl rfl rfl)) rfl rfl rfl rfl) ?_
                    refine scons (CStep.step (c_buildSlice (f := dPar) (za := ([], false)) (xs := [.tmp 103]) rfl rfl wSol_isl58 wSol_siz54 wSol_zer54 rfl rfl ⟨(_, _), _, rfl, (Sees.of rfl), rfl, rfl, rfl⟩) rfl rfl rfl rfl) ?_
                    refine scons (r_appendR (ob := 30002) rfl wSol_isl58 wSol_siz54 wSol_byt54 wSol_zer54 rfl rfl (Sees.of rfl) rfl (Sees.of rfl) (by simp only [List.length_cons, List.length_nil, List.length_append]; omega) (by simp only [List.length_cons, List.length_nil, List.length_append]; omega) rfl rfl rfl rfl rfl) ?_
                    refine scons (CStep.step (PStep.c (p_assign (y := .row _ _) rfl (Sees.of rfl) rfl)) rfl rfl rfl rfl) ?_
                    refine snil ?_
                    refine f_nil ?_
                    show AWs _ _ _ _ _
                    refine f_le (GLe.le (g_freeze (k := 5) (o1 := 10055) rfl rfl rfl rfl)) ?_ (by simp)
                    refine f_region ?_
                    refine scons (CStep.step (PStep.c (p_move (y := .val _) rfl (Sees.of rfl) rfl)) rfl rfl rfl rfl) ?_
                    refine scons (CStep.step (PStep.c (p_add rfl (Sees.of rfl) (Sees.of rfl) (by omega))) rfl rfl rfl rfl) ?_
                    refine scons (CStep.step (PStep.c (p_assign (y := .val _) rfl (Sees.of rfl) rfl)) rfl rfl rfl rfl) ?_
                    refine snil ?_
                    refine f_back ⟨(k + 1, w + 1), ?_, ?_, le_ofL ⟨(by show AV.val (.int .i64 ((k : Int) + 1 + 1)) = _; exact congrArg (fun q => AV.val (.int .i64 q)) (by omega)), (by rw [Sp.ref_yes ha]; rfl), rfl, (by show AV.arr _ _ _ _ _ _ (Sp.upTo (Sp.clrV ((k : Int) + 1) ((Sp.refTo l k).1.getD a ([], false))) (Sp.refTo l k).2 j ++ [((Sp.refTo l k).1.getD a ([], false))]) = _; rw [show j = (Sp.refTo l k).2.length by omega, Sp.upTo_end, Sp.ref_yes ha]; rfl), rfl, rfl, trivial⟩ rfl⟩
                    · show k + 1 ≤ m
                      omega
                    · show m - (k + 1) < m - k
                      omega
    · intro hc1
      try simp only [bs] at hc1
      refine f_exit ?_
      show AWs _ _ _ _ _
      refine f_seq ?_
      refine f_seq ?_
      refine f_region ?_
      refine scons (CStep.step (PStep.c (p_assign (y := .val _) rfl (Sees.of rfl) rfl)) rfl rfl rfl rfl) ?_
      refine snil ?_
      refine f_block ?_
      refine f_loop (α := Nat) (fun j => j ≤ (Sp.refTo l k).1.length ∧ ∀ y ∈ (Sp.refTo l k).1.take j, y.2 = false) (fun j => [(13, iv j), (5, .val (pars (Sp.refTo l k).1)), (6, .row 30002 w), (30002, .arr w 54 2 32 dPar ([], false) (Sp.refTo l k).2)]) (fun j => (Sp.refTo l k).1.length - j) 0 ?_ ?_ ?_
      · exact ⟨Nat.zero_le _, by simp⟩
      · exact le_ofL ⟨rfl, rfl, rfl, rfl, trivial⟩ rfl
      · rintro j ⟨hj, hp⟩
        refine f_seq ?_
        refine f_seq ?_
        refine f_region ?_
        refine scons (CStep.step (PStep.c (p_move (y := .val _) rfl (Sees.of rfl) rfl)) rfl rfl rfl rfl) ?_
        refine scons (CStep.step (PStep.c (p_move (y := .val _) rfl (Sees.of rfl) rfl)) rfl rfl rfl rfl) ?_
        refine scons (CStep.step (PStep.c (p_len rfl wSol_isl58 (Sees.of rfl))) rfl rfl rfl rfl) ?_
        refine scons (CStep.step (PStep.c (p_lss rfl (Sees.of rfl) (Sees.of rfl))) rfl rfl rfl rfl) ?_
        refine snil ?_
        refine f_cond rfl ?_ ?_
        · intro hc9
          try simp only [bs] at hc9
          refine f_skip ?_
          refine f_seq ?_
          refine f_block ?_
          refine f_seq ?_
          refine f_region ?_
          refine scons (CStep.step (PStep.c (p_move (y := .val _) rfl (Sees.of rfl) rfl)) rfl rfl rfl rfl) ?_
          refine scons (CStep.step (PStep.c (p_move (y := .val _) rfl (Sees.of rfl) rfl)) rfl rfl rfl rfl) ?_
          refine scons (CStep.step (PStep.c ((by first | exact p_indexN rfl wSol_isl58 wSol_siz54 (Sees.of rfl) (Sees.of rfl) (by omega) | exact p_index rfl wSol_isl58 wSol_siz54 (Sees.of rfl) (Sees.of rfl) (by omega) (by omega)))) rfl rfl rfl rfl) ?_
          refine scons (CStep.step (PStep.c (p_fieldAddr rfl wSol_fld54_1 wSol_siz4 (by decide) (Sees.of rfl) rfl rfl)) rfl rfl rfl rfl) ?_
          refine scons (CStep.step (PStep.c (p_load rfl wSol_agg4 (Sees.of rfl) rfl)) rfl rfl rfl rfl) ?_
          refine snil ?_
          refine f_cond rfl ?_ ?_
          · intro hc10
            try simp only [bs] at hc10
            refine f_seq ?_
            refine f_region ?_
            refine scons (CStep.step (PStep.c (p_build rfl wSol_plc54 wSol_zer54 (by decide) wSol_zch54 ⟨_, _, _, rfl, rfl, rfl, (Sees.of rfl), rfl⟩ rfl)) rfl rfl rfl rfl) ?_
            refine scons (CStep.step (c_buildSlice (f := dPar) (za := ([], false)) (xs := [.tmp 117]) rfl rfl wSol_isl58 wSol_siz54 wSol_zer54 rfl rfl ⟨(_, _), _, rfl, (Sees.of rfl), rfl, rfl, rfl⟩) rfl rfl rfl rfl) ?_
            refine scons (CStep.step (PStep.c (p_assign (y := .val _) rfl (Sees.of rfl) rfl)) rfl rfl rfl rfl) ?_
            refine snil ?_
            refine f_ret ?_
            refine ends_ret (res_eq (res1 rfl (res_tmp rfl (Sees.of rfl))) ?_)
            obtain rfl : k = m := by omega
            rw [Sp.solveR, if_pos (List.any_eq_true.2 ⟨_, Sp.getD_mem _ j ([], false) (by omega), hc10⟩)]
          · intro hc10
            try simp only [bs] at hc10
            refine f_skip ?_
            refine f_nil ?_
            show AWs _ _ _ _ _
            refine f_region ?_
            refine scons (CStep.step (PStep.c (p_move (y := .val _) rfl (Sees.of rfl) rfl)) rfl rfl rfl rfl) ?_
            refine scons (CStep.step (PStep.c (p_add rfl (Sees.of rfl) (Sees.of rfl) (by omega))) rfl rfl rfl rfl) ?_
            refine scons (CStep.step (PStep.c (p_assign (y := .val _) rfl (Sees.of rfl) rfl)) rfl rfl rfl rfl) ?_
            refine snil ?_
            refine f_back ⟨j + 1, ?_, ?_, le_ofL ⟨rfl, rfl, rfl, rfl, trivial⟩ rfl⟩
            · exact ⟨by omega, Sp.step_all (by omega) hp hc10⟩
            · omega
        · intro hc9
          try simp only [bs] at hc9
          refine f_exit ?_
          show AWs _ _ _ _ _
          refine f_seq ?_
          refine f_region ?_
          refine scons (CStep.step (PStep.c (p_move (y := .row _ _) rfl (Sees.of rfl) rfl)) rfl rfl rfl rfl) ?_
          refine scons (CStep.step (PStep.c (p_assign (y := .row _ _) rfl (Sees.of rfl) rfl)) rfl rfl rfl rfl) ?_
          refine snil ?_
          refine f_ret ?_
          refine ends_ret (res_eq (res1 rfl (res_row rfl rfl rfl)) ?_)
          obtain rfl : k = m := by omega
          rw [Sp.solveR, if_neg (fun h => by obtain ⟨y, hy, h2⟩ := List.any_eq_true.1 h; rw [hp y (by rw [List.take_of_length_le (by omega)]; exact hy)] at h2; cases h2)]

theorem parRows_spec (a b : List (List Int × Bool)) :
    Spec Go.Proofs.Try.prog 50 [.val (pars a), .val (pars b)] (D.bool (decide (a = b))) := by
  refine spec_of' Go.Proofs.Try.func50 rfl Go.Proofs.Try.ntmps50 rfl ?_
  refine f_seq ?_
  refine f_wf (.tmp 0) rfl (fun hwf => ?_) (by simp)
  have hlen : a.length ≤ 140737488355328 := hwf.1
  clear hwf
  refine f_region ?_
  refine scons (CStep.step (PStep.c (p_assign (y := .val _) rfl (Sees.of rfl) rfl)) rfl rfl rfl rfl) ?_
  refine snil ?_
  refine f_seq ?_
  refine f_seq ?_
  refine f_region ?_
  refine scons (CStep.step (PStep.c (p_move (y := .val _) rfl (Sees.of rfl) rfl)) rfl rfl rfl rfl) ?_
  refine scons (CStep.step (PStep.c (p_len rfl wSol_isl58 (Sees.of rfl))) rfl rfl rfl rfl) ?_
  refine scons (CStep.step (PStep.c (p_move (y := .val _) rfl (Sees.of rfl) rfl)) rfl rfl rfl rfl) ?_
  refine scons (CStep.step (PStep.c (p_len rfl wSol_isl58 (Sees.of rfl))) rfl rfl rfl rfl) ?_
  refine scons (CStep.step (PStep.c (p_neq rfl (Sees.of rfl) (Sees.of rfl))) rfl rfl rfl rfl) ?_
  refine snil ?_
  refine f_cond rfl ?_ ?_
  · intro hc1
    try simp only [bs] at hc1
    refine f_seq ?_
    refine f_region ?_
    refine scons (CStep.step (PStep.c (p_assign (y := .val _) rfl (Sees.of rfl) rfl)) rfl rfl rfl rfl) ?_
    refine snil ?_
    refine f_ret ?_
    refine ends_ret (res_eq (res1 rfl (res_tmp rfl (Sees.of rfl))) ?_)
    rw [decide_eq_false (fun h => hc1 (by rw [h]))]
  · intro hc1
    try simp only [bs] at hc1
    refine f_skip ?_
    refine f_seq ?_
    refine f_seq ?_
    refine f_region ?_
    refine scons (CStep.step (PStep.c (p_assign (y := .val _) rfl (Sees.of rfl) rfl)) rfl rfl rfl rfl) ?_
    refine snil ?_
    refine f_block ?_
    refine f_loop (α := Nat) (fun i => i ≤ a.length ∧ ∀ j, j < i → a.getD j ([], false) = b.getD j ([], false)) (fun i => [(5, iv i), (0, .val (pars a)), (1, .val (pars b))]) (fun i => a.length - i) 0 ?_ ?_ ?_
    · exact ⟨Nat.zero_le _, fun j hj => absurd hj (Nat.not_lt_zero _)⟩
    · exact le_ofL ⟨rfl, rfl, rfl, trivial⟩ rfl
    · rintro i ⟨hi, hp⟩
      refine f_seq ?_
      refine f_seq ?_
      refine f_region ?_
      refine scons (CStep.step (PStep.c (p_move (y := .val _) rfl (Sees.of rfl) rfl)) rfl rfl rfl rfl) ?_
      refine scons (CStep.step (PStep.c (p_move (y := .val _) rfl (Sees.of rfl) rfl)) rfl rfl rfl rfl) ?_
      refine scons (CStep.step (PStep.c (p_len rfl wSol_isl58 (Sees.of rfl))) rfl rfl rfl rfl) ?_
      refine scons (CStep.step (PStep.c (p_lss rfl (Sees.of rfl) (Sees.of rfl))) rfl rfl rfl rfl) ?_
      refine snil ?_
      refine f_cond rfl ?_ ?_
      · intro hc2
        try simp only [bs] at hc2
        refine f_skip ?_
        refine f_seq ?_
        refine f_block ?_
        refine f_seq ?_
        refine f_draw wSol_mix (by kernel_rfl) ?_
        refine dcons (CStep.step (PStep.c (p_move (y := .val _) rfl (Sees.of rfl) rfl)) rfl rfl rfl rfl) ?_
        refine dcons (CStep.step (PStep.c (p_move (y := .val _) rfl (Sees.of rfl) rfl)) rfl rfl rfl rfl) ?_
        refine dcons (CStep.step (PStep.c ((by first | exact p_indexN rfl wSol_isl58 wSol_siz54 (Sees.of rfl) (Sees.of rfl) (by omega) | exact p_index rfl wSol_isl58 wSol_siz54 (Sees.of rfl) (Sees.of rfl) (by omega) (by omega)))) rfl rfl rfl rfl) ?_
        refine dcons (CStep.step (PStep.c (p_loadS rfl wSol_agg54 wSol_siz54 (Sees.of rfl) ⟨rfl, fun h => R_len rfl h⟩)) rfl rfl rfl rfl) ?_
        refine dcons (CStep.step (PStep.c (p_move (y := .val _) rfl (Sees.of rfl) rfl)) rfl rfl rfl rfl) ?_
        refine dcons (CStep.step (PStep.c (p_move (y := .val _) rfl (Sees.of rfl) rfl)) rfl rfl rfl rfl) ?_
        refine dcons (CStep.step (PStep.c ((by first | exact p_indexN rfl wSol_isl58 wSol_siz54 (Sees.of rfl) (Sees.of rfl) (by omega) | exact p_index rfl wSol_isl58 wSol_siz54 (Sees.of rfl) (Sees.of rfl) (by omega) (by omega)))) rfl rfl rfl rfl) ?_
        refine dcons (CStep.step (PStep.c (p_loadS rfl wSol_agg54 wSol_siz54 (Sees.of rfl) ⟨rfl, fun h => R_len rfl h⟩)) rfl rfl rfl rfl) ?_
        refine dcons (CStep.step (c_call rfl wSol_isf55 ⟨_, _, rfl, (Sees.of rfl), rfl, ⟨_, _, rfl, (Sees.of rfl), rfl, rfl⟩⟩ (parSame_spec _ _)) rfl rfl rfl rfl) ?_
        refine dcons (CStep.step (PStep.c (p_not rfl (Sees.of rfl))) rfl rfl rfl rfl) ?_
        refine dnil (by kernel_rfl) ?_
        refine f_cond rfl ?_ ?_
        · intro hc3
          try simp only [bs] at hc3
          refine f_seq ?_
          refine f_region ?_
          refine scons (CStep.step (PStep.c (p_assign (y := .val _) rfl (Sees.of rfl) rfl)) rfl rfl rfl rfl) ?_
          refine snil ?_
          refine f_ret ?_
          refine ends_ret (res_eq (res1 rfl (res_tmp rfl (Sees.of rfl))) ?_)
          rw [decide_eq_false (fun h => by rw [h] at hc3; simp at hc3)]
        · intro hc3
          try simp only [bs] at hc3
          refine f_skip ?_
          refine f_nil ?_
          show AWs _ _ _ _ _
          refine f_region ?_
          refine scons (CStep.step (PStep.c (p_move (y := .val _) rfl (Sees.of rfl) rfl)) rfl rfl rfl rfl) ?_
          refine scons (CStep.step (PStep.c (p_add rfl (Sees.of rfl) (Sees.of rfl) (by omega))) rfl rfl rfl rfl) ?_
          refine scons (CStep.step (PStep.c (p_assign (y := .val _) rfl (Sees.of rfl) rfl)) rfl rfl rfl rfl) ?_
          refine snil ?_
          refine f_back ⟨i + 1, ?_, ?_, le_ofL ⟨rfl, rfl, rfl, trivial⟩ rfl⟩
          · refine ⟨by omega, fun j hj => ?_⟩
            by_cases e : j = i
            · rw [e]; simpa using hc3
            · exact hp j (by omega)
          · omega
      · intro hc2
        try simp only [bs] at hc2
        refine f_exit ?_
        show AWs _ _ _ _ _
        refine f_seq ?_
        refine f_region ?_
        refine scons (CStep.step (PStep.c (p_assign (y := .val _) rfl (Sees.of rfl) rfl)) rfl rfl rfl rfl) ?_
        refine snil ?_
        refine f_ret ?_
        refine ends_ret (res_eq (res1 rfl (res_tmp rfl (Sees.of rfl))) ?_)
        rw [decide_eq_true (Sp.lists_eq (by omega) (fun j hj => hp j (by omega)))]

theorem Bools_spec (a b : List Bool) :
    Spec Go.Proofs.Try.prog 24 [.val (bools a), .val (bools b)] (D.bool (decide (a = b))) := by
  refine spec_of' Go.Proofs.Try.func24 rfl Go.Proofs.Try.ntmps24 rfl ?_
  refine f_seq ?_
  refine f_wf (.tmp 0) rfl (fun hwf => ?_) (by simp)
  have hlen : a.length ≤ 140737488355328 := hwf.1
  clear hwf
  refine f_region ?_
  refine scons (CStep.step (PStep.c (p_assign (y := .val _) rfl (Sees.of rfl) rfl)) rfl rfl rfl rfl) ?_
  refine snil ?_
  refine f_seq ?_
  refine f_seq ?_
  refine f_region ?_
  refine scons (CStep.step (PStep.c (p_move (y := .val _) rfl (Sees.of rfl) rfl)) rfl rfl rfl rfl) ?_
  refine scons (CStep.step (PStep.c (p_len rfl wSol_isl31 (Sees.of rfl))) rfl rfl rfl rfl) ?_
  refine scons (CStep.step (PStep.c (p_move (y := .val _) rfl (Sees.of rfl) rfl)) rfl rfl rfl rfl) ?_
  refine scons (CStep.step (PStep.c (p_len rfl wSol_isl31 (Sees.of rfl))) rfl rfl rfl rfl) ?_
  refine scons (CStep.step (PStep.c (p_neq rfl (Sees.of rfl) (Sees.of rfl))) rfl rfl rfl rfl) ?_
  refine snil ?_
  refine f_cond rfl ?_ ?_
  · intro hc1
    try simp only [bs] at hc1
    refine f_seq ?_
    refine f_region ?_
    refine scons (CStep.step (PStep.c (p_assign (y := .val _) rfl (Sees.of rfl) rfl)) rfl rfl rfl rfl) ?_
    refine snil ?_
    refine f_ret ?_
    refine ends_ret (res_eq (res1 rfl (res_tmp rfl (Sees.of rfl))) ?_)
    rw [decide_eq_false (fun h => hc1 (by rw [h]))]
  · intro hc1
    try simp only [bs] at hc1
    refine f_skip ?_
    refine f_seq ?_
    refine f_seq ?_
    refine f_region ?_
    refine scons (CStep.step (PStep.c (p_assign (y := .val _) rfl (Sees.of rfl) rfl)) rfl rfl rfl rfl) ?_
    refine snil ?_
    refine f_block ?_
    refine f_loop (α := Nat) (fun i => i ≤ a.length ∧ ∀ j, j < i → a.getD j false = b.getD j false) (fun i => [(5, iv i), (0, .val (bools a)), (1, .val (bools b))]) (fun i => a.length - i) 0 ?_ ?_ ?_
    · exact ⟨Nat.zero_le _, fun j hj => absurd hj (Nat.not_lt_zero _)⟩
    · exact le_ofL ⟨rfl, rfl, rfl, trivial⟩ rfl
    · rintro i ⟨hi, hp⟩
      refine f_seq ?_
      refine f_seq ?_
      refine f_region ?_
      refine scons (CStep.step (PStep.c (p_move (y := .val _) rfl (Sees.of rfl) rfl)) rfl rfl rfl rfl) ?_
      refine scons (CStep.step (PStep.c (p_move (y := .val _) rfl (Sees.of rfl) rfl)) rfl rfl rfl rfl) ?_
      refine scons (CStep.step (PStep.c (p_len rfl wSol_isl31 (Sees.of rfl))) rfl rfl rfl rfl) ?_
      refine scons (CStep.step (PStep.c (p_lss rfl (Sees.of rfl) (Sees.of rfl))) rfl rfl rfl rfl) ?_
      refine snil ?_
      refine f_cond rfl ?_ ?_
      · intro hc2
        try simp only [bs] at hc2
        refine f_skip ?_
        refine f_seq ?_
        refine f_block ?_
        refine f_seq ?_
        refine f_draw wSol_mix (by kernel_rfl) ?_
        refine dcons (CStep.step (PStep.c (p_move (y := .val _) rfl (Sees.of rfl) rfl)) rfl rfl rfl rfl) ?_
        refine dcons (CStep.step (PStep.c (p_move (y := .val _) rfl (Sees.of rfl) rfl)) rfl rfl rfl rfl) ?_
        refine dcons (CStep.step (PStep.c ((by first | exact p_indexN rfl wSol_isl31 wSol_siz4 (Sees.of rfl) (Sees.of rfl) (by omega) | exact p_index rfl wSol_isl31 wSol_siz4 (Sees.of rfl) (Sees.of rfl) (by omega) (by omega)))) rfl rfl rfl rfl) ?_
        refine dcons (CStep.step (PStep.c (p_load rfl wSol_agg4 (Sees.of rfl) rfl)) rfl rfl rfl rfl) ?_
        refine dcons (CStep.step (PStep.c (p_move (y := .val _) rfl (Sees.of rfl) rfl)) rfl rfl rfl rfl) ?_
        refine dcons (CStep.step (PStep.c (p_move (y := .val _) rfl (Sees.of rfl) rfl)) rfl rfl rfl rfl) ?_
        refine dcons (CStep.step (PStep.c ((by first | exact p_indexN rfl wSol_isl31 wSol_siz4 (Sees.of rfl) (Sees.of rfl) (by omega) | exact p_index rfl wSol_isl31 wSol_siz4 (Sees.of rfl) (Sees.of rfl) (by omega) (by omega)))) rfl rfl rfl rfl) ?_
        refine dcons (CStep.step (PStep.c (p_load rfl wSol_agg4 (Sees.of rfl) rfl)) rfl rfl rfl rfl) ?_
        refine dcons (CStep.step (PStep.c (p_neqB rfl wSol_boo4 (Sees.of rfl) (Sees.of rfl))) rfl rfl rfl rfl) ?_
        refine dnil (by kernel_rfl) ?_
        refine f_cond rfl ?_ ?_
        · intro hc3
          try simp only [bs] at hc3
          refine f_seq ?_
          refine f_region ?_
          refine scons (CStep.step (PStep.c (p_assign (y := .val _) rfl (Sees.of rfl) rfl)) rfl rfl rfl rfl) ?_
          refine snil ?_
          refine f_ret ?_
          refine ends_ret (res_eq (res1 rfl (res_tmp rfl (Sees.of rfl))) ?_)
          rw [decide_eq_false (fun h => by rw [h] at hc3; simp at hc3)]
        · intro hc3
          try simp only [bs] at hc3
          refine f_skip ?_
          refine f_nil ?_
          show AWs _ _ _ _ _
          refine f_region ?_
          refine scons (CStep.step (PStep.c (p_move (y := .val _) rfl (Sees.of rfl) rfl)) rfl rfl rfl rfl) ?_
          refine scons (CStep.step (PStep.c (p_add rfl (Sees.of rfl) (Sees.of rfl) (by omega))) rfl rfl rfl rfl) ?_
          refine scons (CStep.step (PStep.c (p_assign (y := .val _) rfl (Sees.of rfl) rfl)) rfl rfl rfl rfl) ?_
          refine snil ?_
          refine f_back ⟨i + 1, ?_, ?_, le_ofL ⟨rfl, rfl, rfl, trivial⟩ rfl⟩
          · refine ⟨by omega, fun j hj => ?_⟩
            by_cases e : j = i
            · rw [e]; exact hc3
            · exact hp j (by omega)
          · omega
      · intro hc2
        try simp only [bs] at hc2
        refine f_exit ?_
        show AWs _ _ _ _ _
        refine f_seq ?_
        refine f_region ?_
        refine scons (CStep.step (PStep.c (p_assign (y := .val _) rfl (Sees.of rfl) rfl)) rfl rfl rfl rfl) ?_
        refine snil ?_
        refine f_ret ?_
        refine ends_ret (res_eq (res1 rfl (res_tmp rfl (Sees.of rfl))) ?_)
        rw [decide_eq_true (Sp.bools_same (i := i) (by omega) (by omega) hp)]

set_option maxHeartbeats 2000000 in
theorem ParSolves_spec (n : Int) (l : List (List Int × Bool)) :
    Spec Go.Proofs.Try.prog 14 [iv n, .val (pars l)] (D.bool true) := by
  refine spec_of' Go.Proofs.Try.func14 rfl Go.Proofs.Try.ntmps14 rfl ?_
  refine f_seq ?_
  refine f_region ?_
  refine scons (CStep.step (PStep.c (p_assign (y := .val _) rfl (Sees.of rfl) rfl)) rfl rfl rfl rfl) ?_
  refine snil ?_
  refine f_seq ?_
  refine f_seq ?_
  refine f_region ?_
  refine scons (CStep.step (PStep.c (p_move (y := .val _) rfl (Sees.of rfl) rfl)) rfl rfl rfl rfl) ?_
  refine scons (CStep.step (PStep.c (p_len rfl wSol_isl58 (Sees.of rfl))) rfl rfl rfl rfl) ?_
  refine scons (CStep.step (PStep.c (p_gtr rfl (Sees.of rfl) (Sees.of rfl))) rfl rfl rfl rfl) ?_
  refine scons (CStep.step (PStep.c (p_move (y := .val _) rfl (Sees.of rfl) rfl)) rfl rfl rfl rfl) ?_
  refine scons (CStep.guard rfl rfl rfl (fun hg0 => PStep.c (p_move (y := .val _) rfl (Sees.of rfl) rfl)) rfl rfl rfl rfl rfl) ?_
  refine scons (CStep.guard rfl rfl rfl (fun hg0 => PStep.c (p_len rfl wSol_isl58 (Sees.gv' rfl hg0))) rfl rfl rfl rfl rfl) ?_
  refine scons (CStep.guard rfl rfl rfl (fun hg0 => PStep.c (p_leq rfl (Sees.gv' rfl hg0) (Sees.of rfl))) rfl rfl rfl rfl rfl) ?_
  refine scons (CStep.step (PStep.c (p_and rfl (Sees.of rfl) (fun h => Sees.gv' rfl (beq_of_eq h)) (Sees.of rfl))) rfl rfl rfl rfl) ?_
  refine snil ?_
  refine f_cond rfl ?_ ?_
  · intro hc1
    try simp only [bs] at hc1
    refine f_seq ?_
    refine f_region ?_
    refine scons (CStep.step (PStep.c (p_assign (y := .val _) rfl (Sees.of rfl) rfl)) rfl rfl rfl rfl) ?_
    refine snil ?_
    refine f_ret ?_
    refine ends_ret (res_eq (res1 rfl (res_tmp rfl (Sees.of rfl))) ?_)
    rfl
  · intro hc1
    try simp only [bs] at hc1
    refine f_skip ?_
    refine f_seq ?_
    refine f_region ?_
    refine scons (CStep.step (PStep.c (p_move (y := .val _) rfl (Sees.of rfl) rfl)) rfl rfl rfl rfl) ?_
    refine scons (CStep.step (PStep.c (p_move (y := .val _) rfl (Sees.of rfl) rfl)) rfl rfl rfl rfl) ?_
    refine scons (CStep.step (c_call rfl wSol_isf56 ⟨_, _, rfl, (Sees.of rfl), rfl, ⟨_, _, rfl, (Sees.of rfl), rfl, rfl⟩⟩ (solve_spec n l)) rfl rfl rfl rfl) ?_
    refine scons (CStep.step (PStep.c (p_move (y := .val _) rfl (Sees.of rfl) rfl)) rfl rfl rfl rfl) ?_
    refine scons (CStep.step (PStep.c (p_extract rfl (Sees.of rfl) rfl)) rfl rfl rfl rfl) ?_
    refine scons (CStep.step (PStep.c (p_extract rfl (Sees.of rfl) rfl)) rfl rfl rfl rfl) ?_
    refine scons (CStep.step (PStep.c (p_extract rfl (Sees.of rfl) rfl)) rfl rfl rfl rfl) ?_
    refine scons (CStep.step (PStep.c (p_extract rfl (Sees.of rfl) rfl)) rfl rfl rfl rfl) ?_
    refine scons (r_alloc (ob := 10008) rfl wSol_zer28 rfl rfl rfl rfl rfl rfl) ?_
    refine scons (CStep.step (PStep.c (p_assign (y := .val _) rfl (Sees.of rfl) rfl)) rfl rfl rfl rfl) ?_
    refine scons (CStep.step (PStep.c (p_assign (y := .val _) rfl (Sees.of rfl) rfl)) rfl rfl rfl rfl) ?_
    refine scons (CStep.step (PStep.c (p_assign (y := .val _) rfl (Sees.of rfl) rfl)) rfl rfl rfl rfl) ?_
    refine scons (r_storeS rfl wSol_siz28 rfl rfl rfl (Sees.of rfl) rfl (Sees.of rfl) rfl rfl rfl rfl) ?_
    refine snil ?_
    refine f_seq ?_
    refine f_region ?_
    refine scons (CStep.step (PStep.c (p_move (y := .val _) rfl (Sees.of rfl) rfl)) rfl rfl rfl rfl) ?_
    refine scons (CStep.step (PStep.c (p_move (y := .val _) rfl (Sees.of rfl) rfl)) rfl rfl rfl rfl) ?_
    refine scons (CStep.step (c_call rfl wSol_isf31 ⟨_, _, rfl, (Sees.of rfl), rfl, ⟨_, _, rfl, (Sees.of rfl), rfl, rfl⟩⟩ (parCheckR_spec n l)) rfl rfl rfl rfl) ?_
    refine scons (r_alloc (ob := 10009) rfl wSol_zer28 rfl rfl rfl rfl rfl rfl) ?_
    refine scons (r_storeS rfl wSol_siz28 rfl rfl rfl (Sees.of rfl) rfl (Sees.of rfl) rfl rfl rfl rfl) ?_
    refine snil ?_
    refine f_seq ?_
    refine f_seq ?_
    refine f_region ?_
    refine scons (CStep.step (PStep.c (p_fieldRef rfl wSol_fld28_0 wSol_siz3 rfl (Sees.of rfl) rfl)) rfl rfl rfl rfl) ?_
    refine scons (CStep.step (PStep.c (p_loadB (y := .val _) rfl wSol_agg3 (Sees.of rfl) rfl rfl rfl rfl)) rfl rfl rfl rfl) ?_
    refine scons (CStep.step (PStep.c (p_neq rfl (Sees.of rfl) (Sees.of rfl))) rfl rfl rfl rfl) ?_
    refine snil ?_
    refine f_cond rfl ?_ ?_
    · intro hc2
      try simp only [bs] at hc2
      refine f_seq ?_
      refine f_region ?_
      refine scons (CStep.step (PStep.c (p_loadBS rfl wSol_agg28 wSol_siz28 (Sees.of rfl) rfl rfl rfl)) rfl rfl rfl rfl) ?_
      refine scons (CStep.step (PStep.c (p_loadBS rfl wSol_agg28 wSol_siz28 (Sees.of rfl) rfl rfl rfl)) rfl rfl rfl rfl) ?_
      refine scons (CStep.step (PStep.c (p_eqlS2 rfl wSol_eq228 (Sees.of rfl) (Sees.of rfl))) rfl rfl rfl rfl) ?_
      refine scons (CStep.step (PStep.c (p_move (y := .val _) rfl (Sees.of rfl) rfl)) rfl rfl rfl rfl) ?_
      refine scons (CStep.guard rfl rfl rfl (fun hg0 => PStep.c (p_move (y := .val _) rfl (Sees.of rfl) rfl)) rfl rfl rfl rfl rfl) ?_
      refine scons (CStep.guard rfl rfl rfl (fun hg0 => PStep.c (p_eql rfl (Sees.gv' rfl hg0) (Sees.of rfl))) rfl rfl rfl rfl rfl) ?_
      refine scons (CStep.step (PStep.c (p_and rfl (Sees.of rfl) (fun h => Sees.gv' rfl (beq_of_eq h)) (Sees.of rfl))) rfl rfl rfl rfl) ?_
      refine scons (CStep.step (PStep.c (p_move (y := .val _) rfl (Sees.of rfl) rfl)) rfl rfl rfl rfl) ?_
      refine scons (CStep.guard rfl rfl rfl (fun hg0 => PStep.c (p_move (y := .val _) rfl (Sees.of rfl) rfl)) rfl rfl rfl rfl rfl) ?_
      refine scons (CStep.guard rfl rfl rfl (fun hg0 => PStep.c (p_len rfl wSol_isl58 (Sees.gv' rfl hg0))) rfl rfl rfl rfl rfl) ?_
      refine scons (CStep.guard rfl rfl rfl (fun hg0 => PStep.c (p_eql rfl (Sees.gv' rfl hg0) (Sees.of rfl))) rfl rfl rfl rfl rfl) ?_
      refine scons (CStep.step (PStep.c (p_and rfl (Sees.of rfl) (fun h => Sees.gv' rfl (beq_of_eq h)) (Sees.of rfl))) rfl rfl rfl rfl) ?_
      refine scons (CStep.step (PStep.c (p_move (y := .val _) rfl (Sees.of rfl) rfl)) rfl rfl rfl rfl) ?_
      refine scons (CStep.guard rfl rfl rfl (fun hg0 => PStep.c (p_move (y := .val _) rfl (Sees.of rfl) rfl)) rfl rfl rfl rfl rfl) ?_
      refine scons (CStep.guard rfl rfl rfl (fun hg0 => PStep.c (p_len rfl wSol_isl31 (Sees.gv' rfl hg0))) rfl rfl rfl rfl rfl) ?_
      refine scons (CStep.guard rfl rfl rfl (fun hg0 => PStep.c (p_eql rfl (Sees.gv' rfl hg0) (Sees.of rfl))) rfl rfl rfl rfl rfl) ?_
      refine scons (CStep.step (PStep.c (p_and rfl (Sees.of rfl) (fun h => Sees.gv' rfl (beq_of_eq h)) (Sees.of rfl))) rfl rfl rfl rfl) ?_
      refine scons (CStep.step (PStep.c (p_assign (y := .val _) rfl (Sees.of rfl) rfl)) rfl rfl rfl rfl) ?_
      refine snil ?_
      refine f_ret ?_
      refine ends_ret (res_eq (res1 rfl (res_tmp rfl (Sees.of rfl))) ?_)
      rw [Sp.solveOf_err hc2]
      simp
    · intro hc2
      try simp only [bs] at hc2
      have hok := Sp.par_ok hc2
      have hll := hok.2.1
      have hinc : Sp.Incs n l := hok.2.2.1
      obtain ⟨m, rfl⟩ : ∃ m : Nat, n = (m : Int) := ⟨n.toNat, by omega⟩
      have hcase := Sp.solve_case hc2 hinc
      have hone := Sp.solve_one
      have he : (Sp.solveOf m l).2.1 = Sp.solveR m l ∧ (Sp.solveOf m l).2.2.2.1 = 0 ∧ (Sp.solveOf m l).2.2.2.2 = 0 := hcase.elim (fun h => by rw [h.1, h.2]; exact ⟨rfl, rfl, rfl⟩) (fun h => by rw [h.1]; exact ⟨rfl, rfl, rfl⟩)
      refine f_skip ?_
      refine f_seq ?_
      refine f_region ?_
      refine scons (CStep.step (c_buildSlice (f := di) (za := 0) (xs := [.const (.int .i64 1)]) rfl rfl wSol_isl25 wSol_siz3 wSol_zer3 rfl rfl ⟨_, _, rfl, (Sees.of rfl), rfl, rfl, rfl⟩) rfl rfl rfl rfl) ?_
      refine scons (CStep.step (PStep.c (p_build rfl wSol_plc54 wSol_zer54 (by decide) wSol_zch54 ⟨_, _, _, rfl, rfl, rfl, (Sees.of rfl), ⟨_, _, _, rfl, rfl, rfl, (Sees.of rfl), rfl⟩⟩ rfl)) rfl rfl rfl rfl) ?_
      refine scons (CStep.step (c_buildSlice (f := dPar) (za := ([], false)) (xs := [.tmp 58]) rfl rfl wSol_isl58 wSol_siz54 wSol_zer54 rfl rfl ⟨(_, _), _, rfl, (Sees.of rfl), rfl, rfl, rfl⟩) rfl rfl rfl rfl) ?_
      refine scons (CStep.step (c_call rfl wSol_isf56 ⟨_, _, rfl, (Sees.of rfl), rfl, ⟨_, _, rfl, (Sees.of rfl), rfl, rfl⟩⟩ (solve_spec 1 [([1], true)])) rfl rfl rfl rfl) ?_
      refine scons (CStep.step (PStep.c (p_move (y := .val _) rfl (Sees.of rfl) rfl)) rfl rfl rfl rfl) ?_
      refine scons (CStep.step (PStep.c (p_extract rfl (Sees.of rfl) rfl)) rfl rfl rfl rfl) ?_
      refine scons (CStep.step (PStep.c (p_extract rfl (Sees.of rfl) rfl)) rfl rfl rfl rfl) ?_
      refine scons (CStep.step (PStep.c (p_extract rfl (Sees.of rfl) rfl)) rfl rfl rfl rfl) ?_
      refine scons (CStep.step (PStep.c (p_extract rfl (Sees.of rfl) rfl)) rfl rfl rfl rfl) ?_
      refine scons (r_alloc (ob := 10013) rfl wSol_zer28 rfl rfl rfl rfl rfl rfl) ?_
      refine scons (CStep.step (PStep.c (p_assign (y := .val _) rfl (Sees.of rfl) rfl)) rfl rfl rfl rfl) ?_
      refine scons (CStep.step (PStep.c (p_assign (y := .val _) rfl (Sees.of rfl) rfl)) rfl rfl rfl rfl) ?_
      refine scons (CStep.step (PStep.c (p_assign (y := .val _) rfl (Sees.of rfl) rfl)) rfl rfl rfl rfl) ?_
      refine scons (r_storeS rfl wSol_siz28 rfl rfl rfl (Sees.of rfl) rfl (Sees.of rfl) rfl rfl rfl rfl) ?_
      refine snil ?_
      refine f_seq ?_
      refine f_region ?_
      refine scons (CStep.step (PStep.c (p_move (y := .val _) rfl (Sees.of rfl) rfl)) rfl rfl rfl rfl) ?_
      refine scons (CStep.step (PStep.c (p_move (y := .val _) rfl (Sees.of rfl) rfl)) rfl rfl rfl rfl) ?_
      refine scons (CStep.step (c_call rfl wSol_isf57 ⟨_, _, rfl, (Sees.of rfl), rfl, ⟨_, _, rfl, (Sees.of rfl), rfl, rfl⟩⟩ (solveR_spec m l (by omega) hll hinc)) rfl rfl rfl rfl) ?_
      refine scons (CStep.step (PStep.c (p_assign (y := .val _) rfl (Sees.of rfl) rfl)) rfl rfl rfl rfl) ?_
      refine snil ?_
      refine f_seq ?_
      refine f_seq ?_
      refine f_region ?_
      refine scons (CStep.step (PStep.c (p_loadBS rfl wSol_agg28 wSol_siz28 (Sees.of rfl) rfl rfl rfl)) rfl rfl rfl rfl) ?_
      refine scons (CStep.step (PStep.c (p_loadBS rfl wSol_agg28 wSol_siz28 (Sees.of rfl) rfl rfl rfl)) rfl rfl rfl rfl) ?_
      refine scons (CStep.step (PStep.c (p_neqS2 rfl wSol_eq228 (Sees.of rfl) (Sees.of rfl))) rfl rfl rfl rfl) ?_
      refine scons (CStep.step (PStep.c (p_move (y := .val _) rfl (Sees.of rfl) rfl)) rfl rfl rfl rfl) ?_
      refine scons (CStep.guard rfl rfl rfl (fun hg0 => PStep.c (p_fieldRef rfl wSol_fld28_0 wSol_siz3 rfl (Sees.of rfl) rfl)) rfl rfl rfl rfl rfl) ?_
      refine scons (CStep.guard rfl rfl rfl (fun hg0 => PStep.c (p_loadB (y := .val _) rfl wSol_agg3 (Sees.gv' rfl hg0) rfl rfl rfl rfl)) rfl rfl rfl rfl rfl) ?_
      refine scons (CStep.guard rfl rfl rfl (fun hg0 => PStep.c (p_neq rfl (Sees.gv' rfl hg0) (Sees.of rfl))) rfl rfl rfl rfl rfl) ?_
      refine scons (CStep.step (PStep.c (p_or rfl (Sees.of rfl) (Sees.of rfl) (fun h => Sees.gv' rfl (beq_of_eq h)))) rfl rfl rfl rfl) ?_
      refine scons (CStep.step (PStep.c (p_move (y := .val _) rfl (Sees.of rfl) rfl)) rfl rfl rfl rfl) ?_
      refine scons (CStep.guard rfl rfl rfl (fun hg0 => PStep.c (p_move (y := .val _) rfl (Sees.of rfl) rfl)) rfl rfl rfl rfl rfl) ?_
      refine scons (CStep.guard rfl rfl rfl (fun hg0 => PStep.c (p_neq rfl (Sees.gv' rfl hg0) (Sees.of rfl))) rfl rfl rfl rfl rfl) ?_
      refine scons (CStep.step (PStep.c (p_or rfl (Sees.of rfl) (Sees.of rfl) (fun h => Sees.gv' rfl (beq_of_eq h)))) rfl rfl rfl rfl) ?_
      refine scons (CStep.step (PStep.c (p_move (y := .val _) rfl (Sees.of rfl) rfl)) rfl rfl rfl rfl) ?_
      refine scons (CStep.guard rfl rfl rfl (fun hg0 => PStep.c (p_move (y := .val _) rfl (Sees.of rfl) rfl)) rfl rfl rfl rfl rfl) ?_
      refine scons (CStep.guard rfl rfl rfl (fun hg0 => PStep.c (p_move (y := .val _) rfl (Sees.of rfl) rfl)) rfl rfl rfl rfl rfl) ?_
      refine scons (CStep.guard rfl rfl rfl (fun hg0 => c_call rfl wSol_isf50 ⟨_, _, rfl, (Sees.gv' rfl hg0), rfl, ⟨_, _, rfl, (Sees.gv' rfl hg0), rfl, rfl⟩⟩ (parRows_spec _ _)) rfl rfl rfl rfl rfl) ?_
      refine scons (CStep.guard rfl rfl rfl (fun hg0 => PStep.c (p_not rfl (Sees.gv' rfl hg0))) rfl rfl rfl rfl rfl) ?_
      refine scons (CStep.step (PStep.c (p_or rfl (Sees.of rfl) (Sees.of rfl) (fun h => Sees.gv' rfl (beq_of_eq h)))) rfl rfl rfl rfl) ?_
      refine snil ?_
      refine f_cond rfl ?_ ?_
      · intro hc3
        try simp only [bs] at hc3
        refine f_seq ?_
        refine f_region ?_
        refine scons (CStep.step (PStep.c (p_assign (y := .val _) rfl (Sees.of rfl) rfl)) rfl rfl rfl rfl) ?_
        refine snil ?_
        refine f_ret ?_
        refine ends_ret (res_eq (res1 rfl (res_tmp rfl (Sees.of rfl))) ?_)
        exfalso
        rw [hok.2.2.2] at hc3
        exact hc3.elim (fun h => h.elim (fun h => h.elim (fun h => h.elim (fun h => h he.2.1) (fun h => h he.2.2)) (fun h => h hone.2)) (fun h => h hone.1)) (fun h => h he.1)
      · intro hc3
        try simp only [bs] at hc3
        refine f_skip ?_
        refine f_seq ?_
        refine f_seq ?_
        refine f_region ?_
        refine scons (CStep.step (PStep.c (p_move (y := .val _) rfl (Sees.of rfl) rfl)) rfl rfl rfl rfl) ?_
        refine scons (CStep.step (PStep.c (p_len rfl wSol_isl58 (Sees.of rfl))) rfl rfl rfl rfl) ?_
        refine scons (CStep.step (PStep.c (p_gtr rfl (Sees.of rfl) (Sees.of rfl))) rfl rfl rfl rfl) ?_
        refine scons (CStep.step (PStep.c (p_move (y := .val _) rfl (Sees.of rfl) rfl)) rfl rfl rfl rfl) ?_
        refine scons (CStep.guard rfl rfl rfl (fun hg0 => PStep.c (p_move (y := .val _) rfl (Sees.of rfl) rfl)) rfl rfl rfl rfl rfl) ?_
        refine scons (CStep.guard rfl rfl rfl (fun hg0 => by have hp0 := hg0; (try simp only [bs] at hp0); exact PStep.c ((by first | exact p_indexN rfl wSol_isl58 wSol_siz54 (Sees.gv' rfl hg0) (Sees.of rfl) (by omega) | exact p_index rfl wSol_isl58 wSol_siz54 (Sees.gv' rfl hg0) (Sees.of rfl) (by omega) (by omega)))) rfl rfl rfl rfl rfl) ?_
        refine scons (CStep.guard rfl rfl rfl (fun hg0 => PStep.c (p_fieldAddr rfl wSol_fld54_0 wSol_siz25 (by decide) (Sees.gv' rfl hg0) rfl rfl)) rfl rfl rfl rfl rfl) ?_
        refine scons (CStep.guard rfl rfl rfl (fun hg0 => PStep.c (p_load rfl wSol_agg25 (Sees.gv' rfl hg0) rfl)) rfl rfl rfl rfl rfl) ?_
        refine scons (CStep.guard rfl rfl rfl (fun hg0 => PStep.c (p_len rfl wSol_isl25 (Sees.gv' rfl hg0))) rfl rfl rfl rfl rfl) ?_
        refine scons (CStep.guard rfl rfl rfl (fun hg0 => PStep.c (p_eql rfl (Sees.gv' rfl hg0) (Sees.of rfl))) rfl rfl rfl rfl rfl) ?_
        refine scons (CStep.step (PStep.c (p_and rfl (Sees.of rfl) (fun h => Sees.gv' rfl (beq_of_eq h)) (Sees.of rfl))) rfl rfl rfl rfl) ?_
        refine snil ?_
        refine f_cond rfl ?_ ?_
        · intro hc4
          try simp only [bs] at hc4
          refine f_seq ?_
          refine f_region ?_
          refine scons (CStep.step (PStep.c (p_move (y := .val _) rfl (Sees.of rfl) rfl)) rfl rfl rfl rfl) ?_
          refine scons (CStep.step (PStep.c (p_eql rfl (Sees.of rfl) (Sees.of rfl))) rfl rfl rfl rfl) ?_
          refine scons (CStep.step (PStep.c (p_move (y := .val _) rfl (Sees.of rfl) rfl)) rfl rfl rfl rfl) ?_
          refine scons (CStep.guard rfl rfl rfl (fun hg0 => PStep.c (p_move (y := .val _) rfl (Sees.of rfl) rfl)) rfl rfl rfl rfl rfl) ?_
          refine scons (CStep.guard rfl rfl rfl (fun hg0 => PStep.c (p_len rfl wSol_isl31 (Sees.gv' rfl hg0))) rfl rfl rfl rfl rfl) ?_
          refine scons (CStep.guard rfl rfl rfl (fun hg0 => PStep.c (p_eql rfl (Sees.gv' rfl hg0) (Sees.of rfl))) rfl rfl rfl rfl rfl) ?_
          refine scons (CStep.step (PStep.c (p_and rfl (Sees.of rfl) (fun h => Sees.gv' rfl (beq_of_eq h)) (Sees.of rfl))) rfl rfl rfl rfl) ?_
          refine scons (CStep.step (PStep.c (p_assign (y := .val _) rfl (Sees.of rfl) rfl)) rfl rfl rfl rfl) ?_
          refine snil ?_
          refine f_ret ?_
          refine ends_ret (res_eq (res1 rfl (res_tmp rfl (Sees.of rfl))) ?_)
          rcases hcase with h | h
          · rw [h.1]; simp
          · exfalso
            exact h.2.1.ne _ (Sp.getD_mem _ 0 ([], false) (by omega)) (List.eq_nil_of_length_eq_zero (Int.ofNat.inj hc4.2))
        · intro hc4
          try simp only [bs] at hc4
          have hg := hcase.resolve_left (fun h => by rw [h.2] at hc4; simp at hc4)
          refine f_skip ?_
          refine f_seq ?_
          refine f_region ?_
          refine scons (CStep.step (PStep.c (p_move (y := .val _) rfl (Sees.of rfl) rfl)) rfl rfl rfl rfl) ?_
          refine scons (r_make (m := m) (f := D.bool) (z := false) (ob := 10105) rfl wSol_isl31 wSol_siz4 wSol_byt4 wSol_zer4 rfl rfl rfl (fun _ _ => rfl) (Sees.of rfl) (by omega) (by omega) rfl rfl rfl rfl rfl) ?_
          refine scons (CStep.step (PStep.c (p_assign (y := .row _ _) rfl (Sees.of rfl) rfl)) rfl rfl rfl rfl) ?_
          refine snil ?_
          refine f_seq ?_
          refine f_seq ?_
          refine f_region ?_
          refine scons (CStep.step (PStep.c (p_assign (y := .val _) rfl (Sees.of rfl) rfl)) rfl rfl rfl rfl) ?_
          refine snil ?_
          refine f_block ?_
          refine f_loop (α := Nat) (fun i => i ≤ (Sp.solveR m l).length) (fun i => [(16, iv i), (15, .row 10105 0), (10105, .arr 0 4 1 1 D.bool false (Sp.asgTo m (Sp.solveR m l) i)), (14, .val (pars (Sp.solveR m l))), (5, iv (Sp.solveOf m l).1), (7, .val (bools (Sp.solveOf m l).2.2.1)), (4, bv false)]) (fun i => (Sp.solveR m l).length - i) 0 ?_ ?_ ?_
          · exact Nat.zero_le _
          · exact le_ofL ⟨rfl, rfl, rfl, rfl, rfl, rfl, rfl, trivial⟩ rfl
          · rintro i hi
            refine f_seq ?_
            refine f_seq ?_
            refine f_region ?_
            refine scons (CStep.step (PStep.c (p_move (y := .val _) rfl (Sees.of rfl) rfl)) rfl rfl rfl rfl) ?_
            refine scons (CStep.step (PStep.c (p_move (y := .val _) rfl (Sees.of rfl) rfl)) rfl rfl rfl rfl) ?_
            refine scons (CStep.step (PStep.c (p_len rfl wSol_isl58 (Sees.of rfl))) rfl rfl rfl rfl) ?_
            refine scons (CStep.step (PStep.c (p_lss rfl (Sees.of rfl) (Sees.of rfl))) rfl rfl rfl rfl) ?_
            refine snil ?_
            refine f_cond rfl ?_ ?_
            · intro hc5
              try simp only [bs] at hc5
              refine f_skip ?_
              refine f_seq ?_
              refine f_block ?_
              have hsj := Sp.getD_mem (Sp.solveR m l) i ([], false) (by omega)
              have hs0 := List.length_pos_iff.2 (hg.2.1.ne _ hsj)
              have hs1 : 1 ≤ ((Sp.solveR m l).getD i ([], false)).1.getD (nat_lit 0) 0 ∧ ((Sp.solveR m l).getD i ([], false)).1.getD (nat_lit 0) 0 ≤ m := (hg.2.1.inc _ hsj).1 _ (Sp.lead_mem (hg.2.1.ne _ hsj))
              have hal := Sp.asgTo_len m (Sp.solveR m l) i
              refine f_draw wSol_mix (by kernel_rfl) ?_
              refine dcons (CStep.step (PStep.c (p_move (y := .row _ _) rfl (Sees.of rfl) rfl)) rfl rfl rfl rfl) ?_
              refine dcons (CStep.step (PStep.c (p_move (y := .val _) rfl (Sees.of rfl) rfl)) rfl rfl rfl rfl) ?_
              refine dcons (CStep.step (PStep.c (p_move (y := .val _) rfl (Sees.of rfl) rfl)) rfl rfl rfl rfl) ?_
              refine dcons (CStep.step (PStep.c ((by first | exact p_indexN rfl wSol_isl58 wSol_siz54 (Sees.of rfl) (Sees.of rfl) (by omega) | exact p_index rfl wSol_isl58 wSol_siz54 (Sees.of rfl) (Sees.of rfl) (by omega) (by omega)))) rfl rfl rfl rfl) ?_
              refine dcons (CStep.step (PStep.c (p_fieldAddr rfl wSol_fld54_0 wSol_siz25 (by decide) (Sees.of rfl) rfl rfl)) rfl rfl rfl rfl) ?_
              refine dcons (CStep.step (PStep.c (p_load rfl wSol_agg25 (Sees.of rfl) rfl)) rfl rfl rfl rfl) ?_
              refine dcons (CStep.step (PStep.c ((by first | exact p_indexN rfl wSol_isl25 wSol_siz3 (Sees.of rfl) (Sees.of rfl) (by omega) | exact p_index rfl wSol_isl25 wSol_siz3 (Sees.of rfl) (Sees.of rfl) (by omega) (by omega)))) rfl rfl rfl rfl) ?_
              refine dcons (CStep.step (PStep.c (p_load rfl wSol_agg3 (Sees.of rfl) rfl)) rfl rfl rfl rfl) ?_
              refine dcons (CStep.step (PStep.c (p_sub rfl (Sees.of rfl) (Sees.of rfl) (by omega))) rfl rfl rfl rfl) ?_
              refine dcons (CStep.step (PStep.c (p_move (y := .val _) rfl (Sees.of rfl) rfl)) rfl rfl rfl rfl) ?_
              refine dcons (CStep.step (PStep.c (p_move (y := .val _) rfl (Sees.of rfl) rfl)) rfl rfl rfl rfl) ?_
              refine dcons (CStep.step (PStep.c ((by first | exact p_indexN rfl wSol_isl58 wSol_siz54 (Sees.of rfl) (Sees.of rfl) (by omega) | exact p_index rfl wSol_isl58 wSol_siz54 (Sees.of rfl) (Sees.of rfl) (by omega) (by omega)))) rfl rfl rfl rfl) ?_
              refine dcons (CStep.step (PStep.c (p_fieldAddr rfl wSol_fld54_1 wSol_siz4 (by decide) (Sees.of rfl) rfl rfl)) rfl rfl rfl rfl) ?_
              refine dcons (CStep.step (PStep.c (p_load rfl wSol_agg4 (Sees.of rfl) rfl)) rfl rfl rfl rfl) ?_
              refine dcons (CStep.step (PStep.c ((by first | exact p_indexR rfl wSol_isl31 wSol_siz4 (Sees.of rfl) rfl (Sees.of rfl) (by omega) | exact p_indexRZ rfl wSol_isl31 wSol_siz4 (Sees.of rfl) rfl (Sees.of rfl) (by omega) (by omega)))) rfl rfl rfl rfl) ?_
              refine dcons (r_storeE rfl wSol_siz4 rfl rfl rfl (Sees.of rfl) rfl (by omega) (Sees.of rfl) rfl) ?_
              refine dnil (by kernel_rfl) ?_
              refine f_nil ?_
              show AWs _ _ _ _ _
              refine f_region ?_
              refine scons (CStep.step (PStep.c (p_move (y := .val _) rfl (Sees.of rfl) rfl)) rfl rfl rfl rfl) ?_
              refine scons (CStep.step (PStep.c (p_add rfl (Sees.of rfl) (Sees.of rfl) (by omega))) rfl rfl rfl rfl) ?_
              refine scons (CStep.step (PStep.c (p_assign (y := .val _) rfl (Sees.of rfl) rfl)) rfl rfl rfl rfl) ?_
              refine snil ?_
              refine f_back ⟨i + 1, ?_, ?_, le_ofL ⟨rfl, rfl, rfl, rfl, rfl, rfl, rfl, trivial⟩ rfl⟩
              · omega
              · omega
            · intro hc5
              try simp only [bs] at hc5
              refine f_exit ?_
              show AWs _ _ _ _ _
              refine f_seq ?_
              refine f_le (GLe.le (g_freeze (k := 15) (o1 := 10105) rfl rfl rfl rfl)) ?_ (by simp)
              refine f_region ?_
              refine scons (CStep.step (PStep.c (p_move (y := .val _) rfl (Sees.of rfl) rfl)) rfl rfl rfl rfl) ?_
              refine scons (CStep.step (PStep.c (p_eql rfl (Sees.of rfl) (Sees.of rfl))) rfl rfl rfl rfl) ?_
              refine scons (CStep.step (PStep.c (p_move (y := .val _) rfl (Sees.of rfl) rfl)) rfl rfl rfl rfl) ?_
              refine scons (CStep.guard rfl rfl rfl (fun hg0 => PStep.c (p_move (y := .val _) rfl (Sees.of rfl) rfl)) rfl rfl rfl rfl rfl) ?_
              refine scons (CStep.guard rfl rfl rfl (fun hg0 => PStep.c (p_move (y := .val _) rfl (Sees.of rfl) rfl)) rfl rfl rfl rfl rfl) ?_
              refine scons (CStep.guard rfl rfl rfl (fun hg0 => c_call rfl wSol_isf24 ⟨_, _, rfl, (Sees.gv' rfl hg0), rfl, ⟨_, _, rfl, (Sees.gv' rfl hg0), rfl, rfl⟩⟩ (Bools_spec _ _)) rfl rfl rfl rfl rfl) ?_
              refine scons (CStep.step (PStep.c (p_and rfl (Sees.of rfl) (fun h => Sees.gv' rfl (beq_of_eq h)) (Sees.of rfl))) rfl rfl rfl rfl) ?_
              refine scons (CStep.step (PStep.c (p_assign (y := .val _) rfl (Sees.of rfl) rfl)) rfl rfl rfl rfl) ?_
              refine snil ?_
              refine f_ret ?_
              refine ends_ret (res_eq (res1 rfl (res_tmp rfl (Sees.of rfl))) ?_)
              obtain rfl : i = (Sp.solveR m l).length := by omega
              rw [hg.1]
              simp

end Go.Um
