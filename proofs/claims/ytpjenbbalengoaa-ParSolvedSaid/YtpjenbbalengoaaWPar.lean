/- Walks of Go functions of this seat, each by its contract. No condition beyond what each theorem says. -/
import Derived.Test.YtpjenbbalengoaaFlow
import Derived.Test.YtpjenbbalengoaaSp0
import Derived.Test.YtpjenbbalengoaaProg
import Derived.KernelRfl
set_option maxRecDepth 4000
namespace Go.Um
open Go Go.RowKit

theorem wPar_agg26 : IsAgg Go.Proofs.Try.prog 26 true := by unfold IsAgg; kernel_rfl
theorem wPar_agg3 : IsAgg Go.Proofs.Try.prog 3 false := by unfold IsAgg; kernel_rfl
theorem wPar_agg33 : IsAgg Go.Proofs.Try.prog 33 false := by unfold IsAgg; kernel_rfl
theorem wPar_agg35 : IsAgg Go.Proofs.Try.prog 35 true := by unfold IsAgg; kernel_rfl
theorem wPar_fld35_0 : IsField Go.Proofs.Try.prog 35 0 0 33 := by unfold IsField; kernel_rfl
theorem wPar_isf56 : IsFn Go.Proofs.Try.prog 56 := by unfold IsFn; kernel_rfl
theorem wPar_isl22 : IsSlice Go.Proofs.Try.prog 22 35 := by unfold IsSlice; kernel_rfl
theorem wPar_isl33 : IsSlice Go.Proofs.Try.prog 33 3 := by unfold IsSlice; kernel_rfl
theorem wPar_mix : (Go.Proofs.Try.prog).follows .mixedOrders = true := by kernel_rfl
theorem wPar_plc26 : Places Go.Proofs.Try.prog 26 [(0, 1), (1, 1)] := by unfold Places; kernel_rfl
theorem wPar_siz26 : Size Go.Proofs.Try.prog 26 2 := by unfold Size; kernel_rfl
theorem wPar_siz3 : Size Go.Proofs.Try.prog 3 1 := by unfold Size; kernel_rfl
theorem wPar_siz33 : Size Go.Proofs.Try.prog 33 1 := by unfold Size; kernel_rfl
theorem wPar_siz35 : Size Go.Proofs.Try.prog 35 2 := by unfold Size; kernel_rfl
def wPar_z26 : D := .cons (.int .i64 0) (.cons (.int .i64 0) (.nil))
theorem wPar_zch26 : ∀ (ok : Nat → Prop) (w : World), R Go.Proofs.Try.prog wPar_z26 ok w (Value.cells (.agg #[(.int .i64 0), (.int .i64 0)])).toList := fun _ _ => z_int (z_int (z_nil))
theorem wPar_zer26 : Zero Go.Proofs.Try.prog 26 (.agg #[(.int .i64 0), (.int .i64 0)]) := by unfold Zero; kernel_rfl
theorem wPar_zer35 : Zero Go.Proofs.Try.prog 35 (.agg #[(.slice none 0 0), (.bool false)]) := by unfold Zero; kernel_rfl

theorem parityWrong_spec (n : Int) (zs : List Int) (odd : Bool) :
    Spec Go.Proofs.Try.prog 56 [iv n, .val (dPar (zs, odd))] (di (Sp.parityWrong n zs)) := by
  refine spec_of' Go.Proofs.Try.func56 rfl Go.Proofs.Try.ntmps56 rfl ?_
  refine f_seq ?_
  refine f_wf (.tmp 1) rfl (fun hwf => ?_) (by simp)
  have hlen : zs.length ≤ 140737488355328 := hwf.1.1
  clear hwf
  refine f_region ?_
  refine scons (r_box (ob := 10003) rfl (Sees.of rfl) rfl rfl rfl rfl rfl rfl) ?_
  refine scons (CStep.step (PStep.c (p_assign (y := .val _) rfl (Sees.of rfl) rfl)) rfl rfl rfl rfl) ?_
  refine snil ?_
  refine f_seq ?_
  refine f_seq ?_
  refine f_region ?_
  refine scons (CStep.step (PStep.c (p_assign (y := .val _) rfl (Sees.of rfl) rfl)) rfl rfl rfl rfl) ?_
  refine snil ?_
  refine f_block ?_
  refine f_loop (α := Nat) (fun k => k ≤ zs.length ∧ Sp.parityWrong n zs = Sp.parityWrongFrom n zs k) (fun k => [(0, iv n), (3, .ref 10003 0 0), (5, iv k), (10003, .box 0 (.ccons (.val (ints zs)) (.ccons (bv odd) .cnil)))]) (fun k => zs.length - k) 0 ?_ ?_ ?_
  · exact ⟨Nat.zero_le _, rfl⟩
  · exact le_ofL ⟨rfl, rfl, rfl, rfl, trivial⟩ rfl
  · rintro k ⟨hk, hp⟩
    refine f_seq ?_
    refine f_seq ?_
    refine f_region ?_
    refine scons (CStep.step (PStep.c (p_move (y := .val _) rfl (Sees.of rfl) rfl)) rfl rfl rfl rfl) ?_
    refine scons (CStep.step (PStep.c (p_fieldRef rfl wPar_fld35_0 wPar_siz33 rfl (Sees.of rfl) rfl)) rfl rfl rfl rfl) ?_
    refine scons (CStep.step (PStep.c (p_loadB (y := .val _) rfl wPar_agg33 (Sees.of rfl) rfl rfl rfl rfl)) rfl rfl rfl rfl) ?_
    refine scons (CStep.step (PStep.c (p_len rfl wPar_isl33 (Sees.of rfl))) rfl rfl rfl rfl) ?_
    refine scons (CStep.step (PStep.c (p_lss rfl (Sees.of rfl) (Sees.of rfl))) rfl rfl rfl rfl) ?_
    refine snil ?_
    refine f_cond rfl ?_ ?_
    · intro hc1
      try simp only [bs] at hc1
      refine f_skip ?_
      refine f_seq ?_
      refine f_block ?_
      refine f_seq ?_
      refine f_seq ?_
      refine f_region ?_
      refine scons (CStep.step (PStep.c (p_fieldRef rfl wPar_fld35_0 wPar_siz33 rfl (Sees.of rfl) rfl)) rfl rfl rfl rfl) ?_
      refine scons (CStep.step (PStep.c (p_loadB (y := .val _) rfl wPar_agg33 (Sees.of rfl) rfl rfl rfl rfl)) rfl rfl rfl rfl) ?_
      refine scons (CStep.step (PStep.c (p_move (y := .val _) rfl (Sees.of rfl) rfl)) rfl rfl rfl rfl) ?_
      refine scons (CStep.step (PStep.c ((by first | exact p_indexN rfl wPar_isl33 wPar_siz3 (Sees.of rfl) (Sees.of rfl) (by omega) | exact p_index rfl wPar_isl33 wPar_siz3 (Sees.of rfl) (Sees.of rfl) (by omega) (by omega)))) rfl rfl rfl rfl) ?_
      refine scons (CStep.step (PStep.c (p_load rfl wPar_agg3 (Sees.of rfl) rfl)) rfl rfl rfl rfl) ?_
      refine scons (CStep.step (PStep.c (p_lss rfl (Sees.of rfl) (Sees.of rfl))) rfl rfl rfl rfl) ?_
      refine scons (CStep.step (PStep.c (p_move (y := .val _) rfl (Sees.of rfl) rfl)) rfl rfl rfl rfl) ?_
      refine scons (CStep.guard rfl rfl rfl (fun hg0 => PStep.c (p_fieldRef rfl wPar_fld35_0 wPar_siz33 rfl (Sees.of rfl) rfl)) rfl rfl rfl rfl rfl) ?_
      refine scons (CStep.guard rfl rfl rfl (fun hg0 => PStep.c (p_loadB (y := .val _) rfl wPar_agg33 (Sees.gv' rfl hg0) rfl rfl rfl rfl)) rfl rfl rfl rfl rfl) ?_
      refine scons (CStep.guard rfl rfl rfl (fun hg0 => PStep.c (p_move (y := .val _) rfl (Sees.of rfl) rfl)) rfl rfl rfl rfl rfl) ?_
      refine scons (CStep.guard rfl rfl rfl (fun hg0 => by have hp0 := hg0; (try simp only [bs] at hp0); exact PStep.c ((by first | exact p_indexN rfl wPar_isl33 wPar_siz3 (Sees.gv' rfl hg0) (Sees.gv' rfl hg0) (by omega) | exact p_index rfl wPar_isl33 wPar_siz3 (Sees.gv' rfl hg0) (Sees.gv' rfl hg0) (by omega) (by omega)))) rfl rfl rfl rfl rfl) ?_
      refine scons (CStep.guard rfl rfl rfl (fun hg0 => PStep.c (p_load rfl wPar_agg3 (Sees.gv' rfl hg0) rfl)) rfl rfl rfl rfl rfl) ?_
      refine scons (CStep.guard rfl rfl rfl (fun hg0 => PStep.c (p_move (y := .val _) rfl (Sees.of rfl) rfl)) rfl rfl rfl rfl rfl) ?_
      refine scons (CStep.guard rfl rfl rfl (fun hg0 => PStep.c (p_gtr rfl (Sees.gv' rfl hg0) (Sees.gv' rfl hg0))) rfl rfl rfl rfl rfl) ?_
      refine scons (CStep.step (PStep.c (p_or rfl (Sees.of rfl) (Sees.of rfl) (fun h => Sees.gv' rfl (beq_of_eq h)))) rfl rfl rfl rfl) ?_
      refine snil ?_
      refine f_cond rfl ?_ ?_
      · intro hc2
        try simp only [bs] at hc2
        refine f_seq ?_
        refine f_region ?_
        refine scons (CStep.step (PStep.c (p_assign (y := .val _) rfl (Sees.of rfl) rfl)) rfl rfl rfl rfl) ?_
        refine snil ?_
        refine f_ret ?_
        refine ends_ret (res_eq (res1 rfl (res_tmp rfl (Sees.of rfl))) ?_)
        rw [hp, Sp.parityWrongFrom, dif_pos (by omega), if_pos (by omega)]
      · intro hc2
        try simp only [bs] at hc2
        refine f_skip ?_
        refine f_seq ?_
        refine f_draw wPar_mix (by kernel_rfl) ?_
        refine dcons (CStep.step (PStep.c (p_move (y := .val _) rfl (Sees.of rfl) rfl)) rfl rfl rfl rfl) ?_
        refine dcons (CStep.step (PStep.c (p_gtr rfl (Sees.of rfl) (Sees.of rfl))) rfl rfl rfl rfl) ?_
        refine dcons (CStep.step (PStep.c (p_move (y := .val _) rfl (Sees.of rfl) rfl)) rfl rfl rfl rfl) ?_
        refine dcons (CStep.guard rfl rfl rfl (fun hg0 => PStep.c (p_fieldRef rfl wPar_fld35_0 wPar_siz33 rfl (Sees.of rfl) rfl)) rfl rfl rfl rfl rfl) ?_
        refine dcons (CStep.guard rfl rfl rfl (fun hg0 => PStep.c (p_loadB (y := .val _) rfl wPar_agg33 (Sees.gv' rfl hg0) rfl rfl rfl rfl)) rfl rfl rfl rfl rfl) ?_
        refine dcons (CStep.guard rfl rfl rfl (fun hg0 => PStep.c (p_move (y := .val _) rfl (Sees.of rfl) rfl)) rfl rfl rfl rfl rfl) ?_
        refine dcons (CStep.guard rfl rfl rfl (fun hg0 => by have hp0 := hg0; (try simp only [bs] at hp0); exact PStep.c ((by first | exact p_indexN rfl wPar_isl33 wPar_siz3 (Sees.gv' rfl hg0) (Sees.gv' rfl hg0) (by omega) | exact p_index rfl wPar_isl33 wPar_siz3 (Sees.gv' rfl hg0) (Sees.gv' rfl hg0) (by omega) (by omega)))) rfl rfl rfl rfl rfl) ?_
        refine dcons (CStep.guard rfl rfl rfl (fun hg0 => PStep.c (p_load rfl wPar_agg3 (Sees.gv' rfl hg0) rfl)) rfl rfl rfl rfl rfl) ?_
        refine dcons (CStep.guard rfl rfl rfl (fun hg0 => PStep.c (p_fieldRef rfl wPar_fld35_0 wPar_siz33 rfl (Sees.of rfl) rfl)) rfl rfl rfl rfl rfl) ?_
        refine dcons (CStep.guard rfl rfl rfl (fun hg0 => PStep.c (p_loadB (y := .val _) rfl wPar_agg33 (Sees.gv' rfl hg0) rfl rfl rfl rfl)) rfl rfl rfl rfl rfl) ?_
        refine dcons (CStep.guard rfl rfl rfl (fun hg0 => PStep.c (p_move (y := .val _) rfl (Sees.of rfl) rfl)) rfl rfl rfl rfl rfl) ?_
        refine dcons (CStep.guard rfl rfl rfl (fun hg0 => by have hp0 := hg0; (try simp only [bs] at hp0); exact PStep.c (p_sub rfl (Sees.gv' rfl hg0) (Sees.of rfl) (by omega))) rfl rfl rfl rfl rfl) ?_
        refine dcons (CStep.guard rfl rfl rfl (fun hg0 => by have hp0 := hg0; (try simp only [bs] at hp0); exact PStep.c ((by first | exact p_indexN rfl wPar_isl33 wPar_siz3 (Sees.gv' rfl hg0) (Sees.gv' rfl hg0) (by omega) | exact p_index rfl wPar_isl33 wPar_siz3 (Sees.gv' rfl hg0) (Sees.gv' rfl hg0) (by omega) (by omega)))) rfl rfl rfl rfl rfl) ?_
        refine dcons (CStep.guard rfl rfl rfl (fun hg0 => PStep.c (p_load rfl wPar_agg3 (Sees.gv' rfl hg0) rfl)) rfl rfl rfl rfl rfl) ?_
        refine dcons (CStep.guard rfl rfl rfl (fun hg0 => PStep.c (p_leq rfl (Sees.gv' rfl hg0) (Sees.gv' rfl hg0))) rfl rfl rfl rfl rfl) ?_
        refine dcons (CStep.step (PStep.c (p_and rfl (Sees.of rfl) (fun h => Sees.gv' rfl (beq_of_eq h)) (Sees.of rfl))) rfl rfl rfl rfl) ?_
        refine dnil (by kernel_rfl) ?_
        have e1 : ((k : Int) - 1).toNat = k - 1 := by omega
        rw [e1]
        refine f_cond rfl ?_ ?_
        · intro hc3
          try simp only [bs] at hc3
          refine f_seq ?_
          refine f_region ?_
          refine scons (CStep.step (PStep.c (p_assign (y := .val _) rfl (Sees.of rfl) rfl)) rfl rfl rfl rfl) ?_
          refine snil ?_
          refine f_ret ?_
          refine ends_ret (res_eq (res1 rfl (res_tmp rfl (Sees.of rfl))) ?_)
          rw [hp, Sp.parityWrongFrom, dif_pos (by omega), if_neg (by omega), if_pos (by omega)]
        · intro hc3
          try simp only [bs] at hc3
          refine f_skip ?_
          refine f_nil ?_
          show AWs _ _ _ _ _
          refine f_region ?_
          refine scons (CStep.step (PStep.c (p_move (y := .val _) rfl (Sees.of rfl) rfl)) rfl rfl rfl rfl) ?_
          refine scons (CStep.step (PStep.c (p_add rfl (Sees.of rfl) (Sees.of rfl) (by omega))) rfl rfl rfl rfl) ?_
          refine scons (CStep.step (PStep.c (p_assign (y := .val _) rfl (Sees.of rfl) rfl)) rfl rfl rfl rfl) ?_
          refine snil ?_
          refine f_back ⟨k + 1, ?_, ?_, le_ofL ⟨rfl, rfl, rfl, rfl, trivial⟩ rfl⟩
          · refine ⟨by omega, ?_⟩
            rw [hp, Sp.parityWrongFrom, dif_pos (by omega), if_neg (by omega), if_neg (by omega)]
          · omega
    · intro hc1
      try simp only [bs] at hc1
      refine f_exit ?_
      show AWs _ _ _ _ _
      refine f_seq ?_
      refine f_region ?_
      refine scons (CStep.step (PStep.c (p_assign (y := .val _) rfl (Sees.of rfl) rfl)) rfl rfl rfl rfl) ?_
      refine snil ?_
      refine f_ret ?_
      refine ends_ret (res_eq (res1 rfl (res_tmp rfl (Sees.of rfl))) ?_)
      rw [hp, Sp.parityWrongFrom, dif_neg (by omega)]

theorem parCheck_spec (n : Int) (l : List (List Int × Bool)) :
    Spec Go.Proofs.Try.prog 49 [iv n, .val (pars l)] (fault (Sp.parCheck n l).1 (Sp.parCheck n l).2) := by
  refine spec_of' Go.Proofs.Try.func49 rfl Go.Proofs.Try.ntmps49 rfl ?_
  refine f_seq ?_
  refine f_wf (.tmp 1) rfl (fun hwf => ?_) (by simp)
  have hlen : l.length ≤ 140737488355328 := hwf.1
  have hsub : ∀ i, i < l.length → (l.getD i ([], false)).1.length ≤ 140737488355328 := fun i hi => by
    have := hwf.2 _ (List.getElem_mem hi)
    simp only [List.getD, List.getElem?_eq_getElem hi, Option.getD_some]
    exact this.1.1
  clear hwf
  refine f_region ?_
  refine scons (r_alloc (ob := 10004) rfl wPar_zer26 rfl rfl rfl rfl rfl rfl) ?_
  refine snil ?_
  refine f_seq ?_
  refine f_block ?_
  refine f_seq ?_
  refine f_region ?_
  refine scons (CStep.step (PStep.c (p_move (y := .val _) rfl (Sees.of rfl) rfl)) rfl rfl rfl rfl) ?_
  refine scons (CStep.step (PStep.c (p_lss rfl (Sees.of rfl) (Sees.of rfl))) rfl rfl rfl rfl) ?_
  refine scons (CStep.step (PStep.c (p_move (y := .val _) rfl (Sees.of rfl) rfl)) rfl rfl rfl rfl) ?_
  refine scons (CStep.guard rfl rfl rfl (fun hg0 => PStep.c (p_move (y := .val _) rfl (Sees.of rfl) rfl)) rfl rfl rfl rfl rfl) ?_
  refine scons (CStep.guard rfl rfl rfl (fun hg0 => PStep.c (p_gtr rfl (Sees.gv' rfl hg0) (Sees.of rfl))) rfl rfl rfl rfl rfl) ?_
  refine scons (CStep.step (PStep.c (p_or rfl (Sees.of rfl) (Sees.of rfl) (fun h => Sees.gv' rfl (beq_of_eq h)))) rfl rfl rfl rfl) ?_
  refine scons (CStep.step (PStep.c (p_assign (y := .val _) rfl (Sees.of rfl) rfl)) rfl rfl rfl rfl) ?_
  refine snil ?_
  refine f_cond rfl ?_ ?_
  · intro hc1
    try simp only [bs] at hc1
    refine f_seq ?_
    refine f_region ?_
    refine scons (CStep.step (PStep.c (p_build rfl wPar_plc26 wPar_zer26 (by decide) wPar_zch26 ⟨_, _, _, rfl, rfl, rfl, (Sees.of rfl), rfl⟩ rfl)) rfl rfl rfl rfl) ?_
    refine scons (r_storeS rfl wPar_siz26 rfl rfl rfl (Sees.of rfl) rfl (Sees.of rfl) rfl rfl rfl rfl) ?_
    refine snil ?_
    refine f_ret ?_
    refine ends_ret (res_eq (res1 rfl (res_cell (by rfl) rfl rfl wPar_agg26 wPar_siz26 rfl rfl)) ?_)
    rw [Sp.parCheck, if_pos (by omega)]; rfl
  · intro hc1
    try simp only [bs] at hc1
    refine f_seq ?_
    refine f_region ?_
    refine scons (CStep.step (PStep.c (p_move (y := .val _) rfl (Sees.of rfl) rfl)) rfl rfl rfl rfl) ?_
    refine scons (CStep.step (PStep.c (p_len rfl wPar_isl22 (Sees.of rfl))) rfl rfl rfl rfl) ?_
    refine scons (CStep.step (PStep.c (p_gtr rfl (Sees.of rfl) (Sees.of rfl))) rfl rfl rfl rfl) ?_
    refine scons (CStep.step (PStep.c (p_assign (y := .val _) rfl (Sees.of rfl) rfl)) rfl rfl rfl rfl) ?_
    refine snil ?_
    refine f_cond rfl ?_ ?_
    · intro hc2
      try simp only [bs] at hc2
      refine f_seq ?_
      refine f_region ?_
      refine scons (CStep.step (PStep.c (p_build rfl wPar_plc26 wPar_zer26 (by decide) wPar_zch26 ⟨_, _, _, rfl, rfl, rfl, (Sees.of rfl), rfl⟩ rfl)) rfl rfl rfl rfl) ?_
      refine scons (r_storeS rfl wPar_siz26 rfl rfl rfl (Sees.of rfl) rfl (Sees.of rfl) rfl rfl rfl rfl) ?_
      refine snil ?_
      refine f_ret ?_
      refine ends_ret (res_eq (res1 rfl (res_cell (by rfl) rfl rfl wPar_agg26 wPar_siz26 rfl rfl)) ?_)
      rw [Sp.parCheck, if_neg (by omega), if_pos (by omega)]; rfl
    · intro hc2
      try simp only [bs] at hc2
      refine f_skip ?_
      refine f_nil ?_
      show AWs _ _ _ _ _
      refine f_seq ?_
      refine f_seq ?_
      refine f_region ?_
      refine scons (CStep.step (PStep.c (p_move (y := .val _) rfl (Sees.of rfl) rfl)) rfl rfl rfl rfl) ?_
      refine scons (CStep.step (PStep.c (p_len rfl wPar_isl22 (Sees.of rfl))) rfl rfl rfl rfl) ?_
      refine scons (CStep.step (PStep.c (p_move (y := .val _) rfl (Sees.of rfl) rfl)) rfl rfl rfl rfl) ?_
      refine snil ?_
      refine f_block ?_
      refine f_loop (α := Nat) (fun i => i ≤ l.length ∧ Sp.parCheck n l = Sp.parCheckFrom n l i) (fun i => [(0, iv n), (1, .val (pars l)), (4, .ref 10004 0 0), (22, .val (pars l)), (23, iv l.length), (24, iv i), (10004, .box 0 (.ccons (iv 0) (.ccons (iv 0) .cnil)))]) (fun i => l.length - i) 0 ?_ ?_ ?_
      · refine ⟨Nat.zero_le _, ?_⟩
        rw [Sp.parCheck, if_neg (by omega), if_neg (by omega)]
      · exact le_ofL ⟨rfl, rfl, rfl, rfl, rfl, rfl, rfl, trivial⟩ rfl
      · rintro i ⟨hi, hp⟩
        refine f_seq ?_
        refine f_region ?_
        refine scons (CStep.step (PStep.c (p_lss rfl (Sees.of rfl) (Sees.of rfl))) rfl rfl rfl rfl) ?_
        refine snil ?_
        refine f_seq ?_
        refine f_cond rfl ?_ ?_
        · intro hc3
          try simp only [bs] at hc3
          refine f_skip ?_
          refine f_seq ?_
          refine f_block ?_
          refine f_seq ?_
          refine f_region ?_
          refine scons (CStep.step (PStep.c (p_move (y := .val _) rfl (Sees.of rfl) rfl)) rfl rfl rfl rfl) ?_
          refine scons (CStep.step (PStep.c ((by first | exact p_indexN rfl wPar_isl22 wPar_siz35 (Sees.of rfl) (Sees.of rfl) (by omega) | exact p_index rfl wPar_isl22 wPar_siz35 (Sees.of rfl) (Sees.of rfl) (by omega) (by omega)))) rfl rfl rfl rfl) ?_
          refine scons (CStep.step (PStep.c (p_loadS rfl wPar_agg35 wPar_siz35 (Sees.of rfl) ⟨rfl, fun h => R_len rfl h⟩)) rfl rfl rfl rfl) ?_
          refine scons (r_alloc (ob := 10006) rfl wPar_zer35 rfl rfl rfl rfl rfl rfl) ?_
          refine scons (CStep.step (PStep.c (p_assign (y := .val _) rfl (Sees.of rfl) rfl)) rfl rfl rfl rfl) ?_
          refine scons (r_storeS rfl wPar_siz35 rfl rfl rfl (Sees.of rfl) rfl (Sees.of rfl) rfl rfl rfl rfl) ?_
          refine snil ?_
          refine f_seq ?_
          refine f_region ?_
          refine scons (CStep.step (PStep.c (p_fieldRef rfl wPar_fld35_0 wPar_siz33 rfl (Sees.of rfl) rfl)) rfl rfl rfl rfl) ?_
          refine scons (CStep.step (PStep.c (p_loadB (y := .val _) rfl wPar_agg33 (Sees.of rfl) rfl rfl rfl rfl)) rfl rfl rfl rfl) ?_
          refine scons (CStep.step (PStep.c (p_len rfl wPar_isl33 (Sees.of rfl))) rfl rfl rfl rfl) ?_
          refine scons (CStep.step (PStep.c (p_move (y := .val _) rfl (Sees.of rfl) rfl)) rfl rfl rfl rfl) ?_
          refine snil ?_
          have hsl := hsub i (by omega)
          refine f_block ?_
          refine f_loop (α := Nat) (fun k => k ≤ (l.getD i ([], false)).1.length ∧ Sp.parityWrong n (l.getD i ([], false)).1 = Sp.parityWrongFrom n (l.getD i ([], false)).1 k) (fun k => [(0, iv n), (1, .val (pars l)), (4, .ref 10004 0 0), (5, iv i), (6, .ref 10006 0 0), (22, .val (pars l)), (23, iv l.length), (24, iv i), (30, .val (ints (l.getD i ([], false)).1)), (31, iv (l.getD i ([], false)).1.length), (32, iv k), (10004, .box 0 (.ccons (iv 0) (.ccons (iv 0) .cnil))), (10006, .box 0 (.ccons (.val (ints (l.getD i ([], false)).1)) (.ccons (bv (l.getD i ([], false)).2) .cnil)))]) (fun k => (l.getD i ([], false)).1.length - k) 0 ?_ ?_ ?_
          · exact ⟨Nat.zero_le _, rfl⟩
          · exact le_ofL ⟨rfl, rfl, rfl, rfl, rfl, rfl, rfl, rfl, rfl, rfl, rfl, rfl, rfl, trivial⟩ rfl
          · rintro k ⟨hk, hq⟩
            refine f_seq ?_
            refine f_region ?_
            refine scons (CStep.step (PStep.c (p_lss rfl (Sees.of rfl) (Sees.of rfl))) rfl rfl rfl rfl) ?_
            refine snil ?_
            refine f_seq ?_
            refine f_cond rfl ?_ ?_
            · intro hc4
              try simp only [bs] at hc4
              refine f_skip ?_
              refine f_seq ?_
              refine f_block ?_
              refine f_seq ?_
              refine f_region ?_
              refine scons (CStep.step (PStep.c (p_move (y := .val _) rfl (Sees.of rfl) rfl)) rfl rfl rfl rfl) ?_
              refine scons (CStep.step (PStep.c ((by first | exact p_indexN rfl wPar_isl33 wPar_siz3 (Sees.of rfl) (Sees.of rfl) (by omega) | exact p_index rfl wPar_isl33 wPar_siz3 (Sees.of rfl) (Sees.of rfl) (by omega) (by omega)))) rfl rfl rfl rfl) ?_
              refine scons (CStep.step (PStep.c (p_load rfl wPar_agg3 (Sees.of rfl) rfl)) rfl rfl rfl rfl) ?_
              refine scons (CStep.step (PStep.c (p_assign (y := .val _) rfl (Sees.of rfl) rfl)) rfl rfl rfl rfl) ?_
              refine scons (CStep.step (PStep.c (p_assign (y := .val _) rfl (Sees.of rfl) rfl)) rfl rfl rfl rfl) ?_
              refine snil ?_
              refine f_block ?_
              refine f_seq ?_
              refine f_region ?_
              refine scons (CStep.step (PStep.c (p_move (y := .val _) rfl (Sees.of rfl) rfl)) rfl rfl rfl rfl) ?_
              refine scons (CStep.step (PStep.c (p_lss rfl (Sees.of rfl) (Sees.of rfl))) rfl rfl rfl rfl) ?_
              refine scons (CStep.step (PStep.c (p_move (y := .val _) rfl (Sees.of rfl) rfl)) rfl rfl rfl rfl) ?_
              refine scons (CStep.guard rfl rfl rfl (fun hg0 => PStep.c (p_move (y := .val _) rfl (Sees.of rfl) rfl)) rfl rfl rfl rfl rfl) ?_
              refine scons (CStep.guard rfl rfl rfl (fun hg0 => PStep.c (p_move (y := .val _) rfl (Sees.of rfl) rfl)) rfl rfl rfl rfl rfl) ?_
              refine scons (CStep.guard rfl rfl rfl (fun hg0 => PStep.c (p_gtr rfl (Sees.gv' rfl hg0) (Sees.gv' rfl hg0))) rfl rfl rfl rfl rfl) ?_
              refine scons (CStep.step (PStep.c (p_or rfl (Sees.of rfl) (Sees.of rfl) (fun h => Sees.gv' rfl (beq_of_eq h)))) rfl rfl rfl rfl) ?_
              refine scons (CStep.step (PStep.c (p_assign (y := .val _) rfl (Sees.of rfl) rfl)) rfl rfl rfl rfl) ?_
              refine snil ?_
              refine f_cond rfl ?_ ?_
              · intro hc5
                try simp only [bs] at hc5
                refine f_seq ?_
                refine f_region ?_
                refine scons (CStep.step (PStep.c (p_move (y := .val _) rfl (Sees.of rfl) rfl)) rfl rfl rfl rfl) ?_
                refine scons (CStep.step (PStep.c (p_build rfl wPar_plc26 wPar_zer26 (by decide) wPar_zch26 ⟨_, _, _, rfl, rfl, rfl, (Sees.of rfl), ⟨_, _, _, rfl, rfl, rfl, (Sees.of rfl), rfl⟩⟩ rfl)) rfl rfl rfl rfl) ?_
                refine scons (r_storeS rfl wPar_siz26 rfl rfl rfl (Sees.of rfl) rfl (Sees.of rfl) rfl rfl rfl rfl) ?_
                refine snil ?_
                refine f_ret ?_
                refine ends_ret (res_eq (res1 rfl (res_cell (by rfl) rfl rfl wPar_agg26 wPar_siz26 rfl rfl)) ?_)
                have e : Sp.parityWrong n (l.getD i ([], false)).1 = 3 := by rw [hq, Sp.parityWrongFrom, dif_pos (by omega), if_pos (by omega)]
                rw [hp, Sp.parCheckFrom, dif_pos (by omega), e, if_pos (by decide)]; rfl
              · intro hc5
                try simp only [bs] at hc5
                refine f_seq ?_
                refine f_region ?_
                refine scons (CStep.step (PStep.c (p_move (y := .val _) rfl (Sees.of rfl) rfl)) rfl rfl rfl rfl) ?_
                refine scons (CStep.step (PStep.c (p_gtr rfl (Sees.of rfl) (Sees.of rfl))) rfl rfl rfl rfl) ?_
                refine scons (CStep.step (PStep.c (p_move (y := .val _) rfl (Sees.of rfl) rfl)) rfl rfl rfl rfl) ?_
                refine scons (CStep.guard rfl rfl rfl (fun hg0 => PStep.c (p_move (y := .val _) rfl (Sees.of rfl) rfl)) rfl rfl rfl rfl rfl) ?_
                refine scons (CStep.guard rfl rfl rfl (fun hg0 => PStep.c (p_fieldRef rfl wPar_fld35_0 wPar_siz33 rfl (Sees.of rfl) rfl)) rfl rfl rfl rfl rfl) ?_
                refine scons (CStep.guard rfl rfl rfl (fun hg0 => PStep.c (p_loadB (y := .val _) rfl wPar_agg33 (Sees.gv' rfl hg0) rfl rfl rfl rfl)) rfl rfl rfl rfl rfl) ?_
                refine scons (CStep.guard rfl rfl rfl (fun hg0 => PStep.c (p_move (y := .val _) rfl (Sees.of rfl) rfl)) rfl rfl rfl rfl rfl) ?_
                refine scons (CStep.guard rfl rfl rfl (fun hg0 => by have hp0 := hg0; (try simp only [bs] at hp0); exact PStep.c (p_sub rfl (Sees.gv' rfl hg0) (Sees.of rfl) (by omega))) rfl rfl rfl rfl rfl) ?_
                refine scons (CStep.guard rfl rfl rfl (fun hg0 => by have hp0 := hg0; (try simp only [bs] at hp0); exact PStep.c ((by first | exact p_indexN rfl wPar_isl33 wPar_siz3 (Sees.gv' rfl hg0) (Sees.gv' rfl hg0) (by omega) | exact p_index rfl wPar_isl33 wPar_siz3 (Sees.gv' rfl hg0) (Sees.gv' rfl hg0) (by omega) (by omega)))) rfl rfl rfl rfl rfl) ?_
                refine scons (CStep.guard rfl rfl rfl (fun hg0 => PStep.c (p_load rfl wPar_agg3 (Sees.gv' rfl hg0) rfl)) rfl rfl rfl rfl rfl) ?_
                refine scons (CStep.guard rfl rfl rfl (fun hg0 => PStep.c (p_leq rfl (Sees.gv' rfl hg0) (Sees.gv' rfl hg0))) rfl rfl rfl rfl rfl) ?_
                refine scons (CStep.step (PStep.c (p_and rfl (Sees.of rfl) (fun h => Sees.gv' rfl (beq_of_eq h)) (Sees.of rfl))) rfl rfl rfl rfl) ?_
                refine scons (CStep.step (PStep.c (p_assign (y := .val _) rfl (Sees.of rfl) rfl)) rfl rfl rfl rfl) ?_
                refine snil ?_
                have e1 : ((k : Int) - 1).toNat = k - 1 := by omega
                rw [e1]
                refine f_cond rfl ?_ ?_
                · intro hc6
                  try simp only [bs] at hc6
                  refine f_seq ?_
                  refine f_region ?_
                  refine scons (CStep.step (PStep.c (p_move (y := .val _) rfl (Sees.of rfl) rfl)) rfl rfl rfl rfl) ?_
                  refine scons (CStep.step (PStep.c (p_build rfl wPar_plc26 wPar_zer26 (by decide) wPar_zch26 ⟨_, _, _, rfl, rfl, rfl, (Sees.of rfl), ⟨_, _, _, rfl, rfl, rfl, (Sees.of rfl), rfl⟩⟩ rfl)) rfl rfl rfl rfl) ?_
                  refine scons (r_storeS rfl wPar_siz26 rfl rfl rfl (Sees.of rfl) rfl (Sees.of rfl) rfl rfl rfl rfl) ?_
                  refine snil ?_
                  refine f_ret ?_
                  refine ends_ret (res_eq (res1 rfl (res_cell (by rfl) rfl rfl wPar_agg26 wPar_siz26 rfl rfl)) ?_)
                  have e : Sp.parityWrong n (l.getD i ([], false)).1 = 5 := by rw [hq, Sp.parityWrongFrom, dif_pos (by omega), if_neg (by omega), if_pos (by omega)]
                  rw [hp, Sp.parCheckFrom, dif_pos (by omega), e, if_pos (by decide)]; rfl
                · intro hc6
                  try simp only [bs] at hc6
                  refine f_skip ?_
                  refine f_nil ?_
                  show AWs _ _ _ _ _
                  refine f_nil ?_
                  show AWs _ _ _ _ _
                  refine f_region ?_
                  refine scons (CStep.step (PStep.c (p_add rfl (Sees.of rfl) (Sees.of rfl) (by omega))) rfl rfl rfl rfl) ?_
                  refine scons (CStep.step (PStep.c (p_move (y := .val _) rfl (Sees.of rfl) rfl)) rfl rfl rfl rfl) ?_
                  refine snil ?_
                  refine f_back ⟨k + 1, ?_, ?_, le_ofL ⟨rfl, rfl, rfl, rfl, rfl, rfl, rfl, rfl, rfl, rfl, rfl, rfl, rfl, trivial⟩ rfl⟩
                  · refine ⟨by omega, ?_⟩
                    rw [hq, Sp.parityWrongFrom, dif_pos (by omega), if_neg (by omega), if_neg (by omega)]
                  · omega
            · intro hc4
              try simp only [bs] at hc4
              refine f_exit ?_
              show AWs _ _ _ _ _
              refine f_nil ?_
              show AWs _ _ _ _ _
              refine f_region ?_
              refine scons (CStep.step (PStep.c (p_add rfl (Sees.of rfl) (Sees.of rfl) (by omega))) rfl rfl rfl rfl) ?_
              refine scons (CStep.step (PStep.c (p_move (y := .val _) rfl (Sees.of rfl) rfl)) rfl rfl rfl rfl) ?_
              refine snil ?_
              refine f_back ⟨i + 1, ?_, ?_, le_ofL ⟨rfl, rfl, rfl, rfl, rfl, rfl, rfl, trivial⟩ rfl⟩
              · refine ⟨by omega, ?_⟩
                have e : Sp.parityWrong n (l.getD i ([], false)).1 = 0 := by rw [hq, Sp.parityWrongFrom, dif_neg (by omega)]
                rw [hp, Sp.parCheckFrom, dif_pos (by omega), e, if_neg (by decide)]
              · omega
        · intro hc3
          try simp only [bs] at hc3
          refine f_exit ?_
          show AWs _ _ _ _ _
          refine f_seq ?_
          refine f_region ?_
          refine scons (CStep.step (PStep.c (p_build rfl wPar_plc26 wPar_zer26 (by decide) wPar_zch26 rfl rfl)) rfl rfl rfl rfl) ?_
          refine scons (r_storeS rfl wPar_siz26 rfl rfl rfl (Sees.of rfl) rfl (Sees.of rfl) rfl rfl rfl rfl) ?_
          refine snil ?_
          refine f_ret ?_
          refine ends_ret (res_eq (res1 rfl (res_cell (by rfl) rfl rfl wPar_agg26 wPar_siz26 rfl rfl)) ?_)
          rw [hp, Sp.parCheckFrom, dif_neg (by omega)]; rfl

theorem parCheckR_spec (n : Int) (l : List (List Int × Bool)) :
    Spec Go.Proofs.Try.prog 16 [iv n, .val (pars l)] (fault (Sp.parCheck n l).1 (Sp.parCheck n l).2) := by
  refine spec_of' Go.Proofs.Try.func16 rfl Go.Proofs.Try.ntmps16 rfl ?_
  refine f_seq ?_
  refine f_wf (.tmp 1) rfl (fun hwf => ?_) (by simp)
  have hlen : l.length ≤ 140737488355328 := hwf.1
  clear hwf
  refine f_region ?_
  refine scons (r_alloc (ob := 10004) rfl wPar_zer26 rfl rfl rfl rfl rfl rfl) ?_
  refine snil ?_
  refine f_seq ?_
  refine f_seq ?_
  refine f_region ?_
  refine scons (CStep.step (PStep.c (p_move (y := .val _) rfl (Sees.of rfl) rfl)) rfl rfl rfl rfl) ?_
  refine scons (CStep.step (PStep.c (p_lss rfl (Sees.of rfl) (Sees.of rfl))) rfl rfl rfl rfl) ?_
  refine scons (CStep.step (PStep.c (p_move (y := .val _) rfl (Sees.of rfl) rfl)) rfl rfl rfl rfl) ?_
  refine scons (CStep.guard rfl rfl rfl (fun hg0 => PStep.c (p_move (y := .val _) rfl (Sees.of rfl) rfl)) rfl rfl rfl rfl rfl) ?_
  refine scons (CStep.guard rfl rfl rfl (fun hg0 => PStep.c (p_gtr rfl (Sees.gv' rfl hg0) (Sees.of rfl))) rfl rfl rfl rfl rfl) ?_
  refine scons (CStep.step (PStep.c (p_or rfl (Sees.of rfl) (Sees.of rfl) (fun h => Sees.gv' rfl (beq_of_eq h)))) rfl rfl rfl rfl) ?_
  refine snil ?_
  refine f_cond rfl ?_ ?_
  · intro hc1
    try simp only [bs] at hc1
    refine f_seq ?_
    refine f_region ?_
    refine scons (CStep.step (PStep.c (p_build rfl wPar_plc26 wPar_zer26 (by decide) wPar_zch26 ⟨_, _, _, rfl, rfl, rfl, (Sees.of rfl), rfl⟩ rfl)) rfl rfl rfl rfl) ?_
    refine scons (r_storeS rfl wPar_siz26 rfl rfl rfl (Sees.of rfl) rfl (Sees.of rfl) rfl rfl rfl rfl) ?_
    refine snil ?_
    refine f_ret ?_
    refine ends_ret (res_eq (res1 rfl (res_cell (by rfl) rfl rfl wPar_agg26 wPar_siz26 rfl rfl)) ?_)
    rw [Sp.parCheck, if_pos (by omega)]; rfl
  · intro hc1
    try simp only [bs] at hc1
    refine f_skip ?_
    refine f_seq ?_
    refine f_seq ?_
    refine f_region ?_
    refine scons (CStep.step (PStep.c (p_move (y := .val _) rfl (Sees.of rfl) rfl)) rfl rfl rfl rfl) ?_
    refine scons (CStep.step (PStep.c (p_len rfl wPar_isl22 (Sees.of rfl))) rfl rfl rfl rfl) ?_
    refine scons (CStep.step (PStep.c (p_gtr rfl (Sees.of rfl) (Sees.of rfl))) rfl rfl rfl rfl) ?_
    refine snil ?_
    refine f_cond rfl ?_ ?_
    · intro hc2
      try simp only [bs] at hc2
      refine f_seq ?_
      refine f_region ?_
      refine scons (CStep.step (PStep.c (p_build rfl wPar_plc26 wPar_zer26 (by decide) wPar_zch26 ⟨_, _, _, rfl, rfl, rfl, (Sees.of rfl), rfl⟩ rfl)) rfl rfl rfl rfl) ?_
      refine scons (r_storeS rfl wPar_siz26 rfl rfl rfl (Sees.of rfl) rfl (Sees.of rfl) rfl rfl rfl rfl) ?_
      refine snil ?_
      refine f_ret ?_
      refine ends_ret (res_eq (res1 rfl (res_cell (by rfl) rfl rfl wPar_agg26 wPar_siz26 rfl rfl)) ?_)
      rw [Sp.parCheck, if_neg (by omega), if_pos (by omega)]; rfl
    · intro hc2
      try simp only [bs] at hc2
      refine f_skip ?_
      refine f_seq ?_
      refine f_seq ?_
      refine f_region ?_
      refine scons (CStep.step (PStep.c (p_assign (y := .val _) rfl (Sees.of rfl) rfl)) rfl rfl rfl rfl) ?_
      refine snil ?_
      refine f_block ?_
      refine f_loop (α := Nat) (fun i => i ≤ l.length ∧ Sp.parCheck n l = Sp.parCheckFrom n l i) (fun i => [(0, iv n), (1, .val (pars l)), (4, .ref 10004 0 0), (5, iv i), (10004, .box 0 (.ccons (iv 0) (.ccons (iv 0) .cnil)))]) (fun i => l.length - i) 0 ?_ ?_ ?_
      · refine ⟨Nat.zero_le _, ?_⟩
        rw [Sp.parCheck, if_neg (by omega), if_neg (by omega)]
      · exact le_ofL ⟨rfl, rfl, rfl, rfl, rfl, trivial⟩ rfl
      · rintro i ⟨hi, hp⟩
        refine f_seq ?_
        refine f_seq ?_
        refine f_region ?_
        refine scons (CStep.step (PStep.c (p_move (y := .val _) rfl (Sees.of rfl) rfl)) rfl rfl rfl rfl) ?_
        refine scons (CStep.step (PStep.c (p_move (y := .val _) rfl (Sees.of rfl) rfl)) rfl rfl rfl rfl) ?_
        refine scons (CStep.step (PStep.c (p_len rfl wPar_isl22 (Sees.of rfl))) rfl rfl rfl rfl) ?_
        refine scons (CStep.step (PStep.c (p_lss rfl (Sees.of rfl) (Sees.of rfl))) rfl rfl rfl rfl) ?_
        refine snil ?_
        refine f_cond rfl ?_ ?_
        · intro hc3
          try simp only [bs] at hc3
          refine f_skip ?_
          refine f_seq ?_
          refine f_block ?_
          refine f_seq ?_
          refine f_region ?_
          refine scons (CStep.step (PStep.c (p_move (y := .val _) rfl (Sees.of rfl) rfl)) rfl rfl rfl rfl) ?_
          refine scons (CStep.step (PStep.c (p_move (y := .val _) rfl (Sees.of rfl) rfl)) rfl rfl rfl rfl) ?_
          refine scons (CStep.step (PStep.c (p_move (y := .val _) rfl (Sees.of rfl) rfl)) rfl rfl rfl rfl) ?_
          refine scons (CStep.step (PStep.c ((by first | exact p_indexN rfl wPar_isl22 wPar_siz35 (Sees.of rfl) (Sees.of rfl) (by omega) | exact p_index rfl wPar_isl22 wPar_siz35 (Sees.of rfl) (Sees.of rfl) (by omega) (by omega)))) rfl rfl rfl rfl) ?_
          refine scons (CStep.step (PStep.c (p_loadS rfl wPar_agg35 wPar_siz35 (Sees.of rfl) ⟨rfl, fun h => R_len rfl h⟩)) rfl rfl rfl rfl) ?_
          refine scons (CStep.step (c_call rfl wPar_isf56 ⟨_, _, rfl, (Sees.of rfl), rfl, ⟨_, _, rfl, (Sees.of rfl), rfl, rfl⟩⟩ (parityWrong_spec _ (l.getD i ([], false)).1 (l.getD i ([], false)).2)) rfl rfl rfl rfl) ?_
          refine scons (CStep.step (PStep.c (p_assign (y := .val _) rfl (Sees.of rfl) rfl)) rfl rfl rfl rfl) ?_
          refine snil ?_
          refine f_seq ?_
          refine f_region ?_
          refine scons (CStep.step (PStep.c (p_move (y := .val _) rfl (Sees.of rfl) rfl)) rfl rfl rfl rfl) ?_
          refine scons (CStep.step (PStep.c (p_neq rfl (Sees.of rfl) (Sees.of rfl))) rfl rfl rfl rfl) ?_
          refine snil ?_
          refine f_cond rfl ?_ ?_
          · intro hc4
            try simp only [bs] at hc4
            refine f_seq ?_
            refine f_region ?_
            refine scons (CStep.step (PStep.c (p_move (y := .val _) rfl (Sees.of rfl) rfl)) rfl rfl rfl rfl) ?_
            refine scons (CStep.step (PStep.c (p_move (y := .val _) rfl (Sees.of rfl) rfl)) rfl rfl rfl rfl) ?_
            refine scons (CStep.step (PStep.c (p_build rfl wPar_plc26 wPar_zer26 (by decide) wPar_zch26 ⟨_, _, _, rfl, rfl, rfl, (Sees.of rfl), ⟨_, _, _, rfl, rfl, rfl, (Sees.of rfl), rfl⟩⟩ rfl)) rfl rfl rfl rfl) ?_
            refine scons (r_storeS rfl wPar_siz26 rfl rfl rfl (Sees.of rfl) rfl (Sees.of rfl) rfl rfl rfl rfl) ?_
            refine snil ?_
            refine f_ret ?_
            refine ends_ret (res_eq (res1 rfl (res_cell (by rfl) rfl rfl wPar_agg26 wPar_siz26 rfl rfl)) ?_)
            rw [hp, Sp.parCheckFrom, dif_pos (by omega), if_pos (by omega)]; rfl
          · intro hc4
            try simp only [bs] at hc4
            refine f_skip ?_
            refine f_nil ?_
            show AWs _ _ _ _ _
            refine f_region ?_
            refine scons (CStep.step (PStep.c (p_move (y := .val _) rfl (Sees.of rfl) rfl)) rfl rfl rfl rfl) ?_
            refine scons (CStep.step (PStep.c (p_add rfl (Sees.of rfl) (Sees.of rfl) (by omega))) rfl rfl rfl rfl) ?_
            refine scons (CStep.step (PStep.c (p_assign (y := .val _) rfl (Sees.of rfl) rfl)) rfl rfl rfl rfl) ?_
            refine snil ?_
            refine f_back ⟨i + 1, ?_, ?_, le_ofL ⟨rfl, rfl, rfl, rfl, rfl, trivial⟩ rfl⟩
            · refine ⟨by omega, ?_⟩
              rw [hp, Sp.parCheckFrom, dif_pos (by omega), if_neg (by omega)]
            · omega
        · intro hc3
          try simp only [bs] at hc3
          refine f_exit ?_
          show AWs _ _ _ _ _
          refine f_seq ?_
          refine f_region ?_
          refine scons (CStep.step (PStep.c (p_build rfl wPar_plc26 wPar_zer26 (by decide) wPar_zch26 rfl rfl)) rfl rfl rfl rfl) ?_
          refine scons (r_storeS rfl wPar_siz26 rfl rfl rfl (Sees.of rfl) rfl (Sees.of rfl) rfl rfl rfl rfl) ?_
          refine snil ?_
          refine f_ret ?_
          refine ends_ret (res_eq (res1 rfl (res_cell (by rfl) rfl rfl wPar_agg26 wPar_siz26 rfl rfl)) ?_)
          rw [hp, Sp.parCheckFrom, dif_neg (by omega)]; rfl

end Go.Um
