/- Walks of Go functions of this seat, each by its contract. No condition beyond what each theorem says. -/
import Derived.Test.YtpjenbbalengoaaWCd4
import Derived.Test.YtpjenbbalengoaaSq5
import Derived.Test.YtpjenbbalengoaaProg
import Derived.KernelRfl
set_option maxRecDepth 4000
namespace Go.Um
open Go Go.RowKit

theorem wCd5_agg3 : IsAgg Go.Proofs.Try.prog 3 false := by unfold IsAgg; kernel_rfl
theorem wCd5_isf78 : IsFn Go.Proofs.Try.prog 78 := by unfold IsFn; kernel_rfl
theorem wCd5_isl33 : IsSlice Go.Proofs.Try.prog 33 3 := by unfold IsSlice; kernel_rfl
theorem wCd5_mix : (Go.Proofs.Try.prog).follows .mixedOrders = true := by kernel_rfl
theorem wCd5_siz3 : Size Go.Proofs.Try.prog 3 1 := by unfold Size; kernel_rfl
def wCd5_z41 : D := .cons (.int .i64 0) (.cons (.int .i64 0) (.cons (.int .i64 0) (.cons (.int .i64 0) (.nil))))
theorem coreFine_spec (asked core : List Int) (h1 : ∀ x ∈ core, x ∈ asked) (h2 : core.Pairwise fun x y => x < y) :
    Spec Go.Proofs.Try.prog 27 [.val (ints asked), .val (ints core)] (D.bool true) := by
  refine spec_of' Go.Proofs.Try.func27 rfl Go.Proofs.Try.ntmps27 rfl ?_
  refine f_seq ?_
  refine f_wf (.tmp 1) rfl (fun hwf => ?_) (by simp)
  have hlen : core.length ≤ 140737488355328 := hwf.1
  clear hwf
  refine f_region ?_
  refine scons (CStep.step (PStep.c (p_assign (y := .val _) rfl (Sees.of rfl) rfl)) rfl rfl rfl rfl) ?_
  refine snil ?_
  refine f_seq ?_
  refine f_seq ?_
  refine f_region ?_
  refine scons (CStep.step (PStep.c (p_assign (y := .val _) rfl (Sees.of rfl) rfl)) rfl rfl rfl rfl) ?_
  refine snil ?_
  refine f_block ?_
  refine f_loop (α := Nat) (fun i => i ≤ core.length) (fun i => [(5, iv i), (0, .val (ints asked)), (1, .val (ints core))]) (fun i => core.length - i) 0 ?_ ?_ ?_
  · exact Nat.zero_le _
  · exact le_ofL ⟨rfl, rfl, rfl, trivial⟩ rfl
  · rintro i hi
    refine f_seq ?_
    refine f_seq ?_
    refine f_region ?_
    refine scons (CStep.step (PStep.c (p_move (y := .val _) rfl (Sees.of rfl) rfl)) rfl rfl rfl rfl) ?_
    refine scons (CStep.step (PStep.c (p_move (y := .val _) rfl (Sees.of rfl) rfl)) rfl rfl rfl rfl) ?_
    refine scons (CStep.step (PStep.c (p_len rfl wCd5_isl33 (Sees.of rfl))) rfl rfl rfl rfl) ?_
    refine scons (CStep.step (PStep.c (p_lss rfl (Sees.of rfl) (Sees.of rfl))) rfl rfl rfl rfl) ?_
    refine snil ?_
    refine f_cond rfl ?_ ?_
    · intro hc1
      try simp only [bs] at hc1
      refine f_skip ?_
      refine f_seq ?_
      refine f_block ?_
      refine f_seq ?_
      have hcs := Sp.core_step h1 h2 (i := i) (by omega)
      refine f_draw wCd5_mix (by kernel_rfl) ?_
      refine dcons (CStep.step (PStep.c (p_move (y := .val _) rfl (Sees.of rfl) rfl)) rfl rfl rfl rfl) ?_
      refine dcons (CStep.step (PStep.c (p_move (y := .val _) rfl (Sees.of rfl) rfl)) rfl rfl rfl rfl) ?_
      refine dcons (CStep.step (PStep.c (p_move (y := .val _) rfl (Sees.of rfl) rfl)) rfl rfl rfl rfl) ?_
      refine dcons (CStep.step (PStep.c ((by first | exact p_indexN rfl wCd5_isl33 wCd5_siz3 (Sees.of rfl) (Sees.of rfl) (by omega) | exact p_index rfl wCd5_isl33 wCd5_siz3 (Sees.of rfl) (Sees.of rfl) (by omega) (by omega)))) rfl rfl rfl rfl) ?_
      refine dcons (CStep.step (PStep.c (p_load rfl wCd5_agg3 (Sees.of rfl) rfl)) rfl rfl rfl rfl) ?_
      refine dcons (CStep.step (c_call rfl wCd5_isf78 ⟨_, _, rfl, (Sees.of rfl), rfl, ⟨_, _, rfl, (Sees.of rfl), rfl, rfl⟩⟩ (has_spec asked (core.getD i 0))) rfl rfl rfl rfl) ?_
      refine dcons (CStep.step (PStep.c (p_not rfl (Sees.of rfl))) rfl rfl rfl rfl) ?_
      refine dcons (CStep.step (PStep.c (p_move (y := .val _) rfl (Sees.of rfl) rfl)) rfl rfl rfl rfl) ?_
      refine dcons (CStep.guard rfl rfl rfl (fun hg0 => PStep.c (p_move (y := .val _) rfl (Sees.of rfl) rfl)) rfl rfl rfl rfl rfl) ?_
      refine dcons (CStep.guard rfl rfl rfl (fun hg0 => PStep.c (p_gtr rfl (Sees.gv' rfl hg0) (Sees.of rfl))) rfl rfl rfl rfl rfl) ?_
      refine dcons (CStep.guard rfl rfl rfl (fun hg0 => PStep.c (p_move (y := .val _) rfl (Sees.gv' rfl hg0) rfl)) rfl rfl rfl rfl rfl) ?_
      refine dcons (CStep.guard2 rfl rfl rfl (fun hg1 hg0 => PStep.c (p_move (y := .val _) rfl (Sees.of rfl) rfl)) rfl rfl rfl rfl rfl) ?_
      refine dcons (CStep.guard2 rfl rfl rfl (fun hg1 hg0 => PStep.c (p_move (y := .val _) rfl (Sees.of rfl) rfl)) rfl rfl rfl rfl rfl) ?_
      refine dcons (CStep.guard2 rfl rfl rfl (fun hg1 hg0 => by have hp0 := hg0; have hp1 := hg1; (try simp only [bs] at hp0 hp1); exact PStep.c (p_sub rfl (Sees.gv' rfl (and_true_of hg1 hg0)) (Sees.of rfl) (by omega))) rfl rfl rfl rfl rfl) ?_
      refine dcons (CStep.guard2 rfl rfl rfl (fun hg1 hg0 => by have hp0 := hg0; have hp1 := hg1; (try simp only [bs] at hp0 hp1); exact PStep.c ((by first | exact p_indexN rfl wCd5_isl33 wCd5_siz3 (Sees.gv' rfl (and_true_of hg1 hg0)) (Sees.gv' rfl (and_true_of hg1 hg0)) (by omega) | exact p_index rfl wCd5_isl33 wCd5_siz3 (Sees.gv' rfl (and_true_of hg1 hg0)) (Sees.gv' rfl (and_true_of hg1 hg0)) (by omega) (by omega)))) rfl rfl rfl rfl rfl) ?_
      refine dcons (CStep.guard2 rfl rfl rfl (fun hg1 hg0 => PStep.c (p_load rfl wCd5_agg3 (Sees.gv' rfl (and_true_of hg1 hg0)) rfl)) rfl rfl rfl rfl rfl) ?_
      refine dcons (CStep.guard2 rfl rfl rfl (fun hg1 hg0 => PStep.c (p_move (y := .val _) rfl (Sees.of rfl) rfl)) rfl rfl rfl rfl rfl) ?_
      refine dcons (CStep.guard2 rfl rfl rfl (fun hg1 hg0 => PStep.c (p_move (y := .val _) rfl (Sees.of rfl) rfl)) rfl rfl rfl rfl rfl) ?_
      refine dcons (CStep.guard2 rfl rfl rfl (fun hg1 hg0 => by have hp0 := hg0; have hp1 := hg1; (try simp only [bs] at hp0 hp1); exact PStep.c ((by first | exact p_indexN rfl wCd5_isl33 wCd5_siz3 (Sees.gv' rfl (and_true_of hg1 hg0)) (Sees.gv' rfl (and_true_of hg1 hg0)) (by omega) | exact p_index rfl wCd5_isl33 wCd5_siz3 (Sees.gv' rfl (and_true_of hg1 hg0)) (Sees.gv' rfl (and_true_of hg1 hg0)) (by omega) (by omega)))) rfl rfl rfl rfl rfl) ?_
      refine dcons (CStep.guard2 rfl rfl rfl (fun hg1 hg0 => PStep.c (p_load rfl wCd5_agg3 (Sees.gv' rfl (and_true_of hg1 hg0)) rfl)) rfl rfl rfl rfl rfl) ?_
      refine dcons (CStep.guard2 rfl rfl rfl (fun hg1 hg0 => PStep.c (p_geq rfl (Sees.gv' rfl (and_true_of hg1 hg0)) (Sees.gv' rfl (and_true_of hg1 hg0)))) rfl rfl rfl rfl rfl) ?_
      refine dcons (CStep.guard rfl rfl rfl (fun hg0 => PStep.c (p_and rfl (Sees.gv' rfl hg0) (fun h => Sees.gv' rfl (and_true_of hg0 (beq_of_eq h))) (Sees.of rfl))) rfl rfl rfl rfl rfl) ?_
      refine dcons (CStep.step (PStep.c (p_or rfl (Sees.of rfl) (Sees.of rfl) (fun h => Sees.gv' rfl (beq_of_eq h)))) rfl rfl rfl rfl) ?_
      refine dnil (by kernel_rfl) ?_
      refine f_cond rfl ?_ ?_
      · intro hc2
        try simp only [bs] at hc2
        refine f_seq ?_
        refine f_region ?_
        refine scons (CStep.step (PStep.c (p_assign (y := .val _) rfl (Sees.of rfl) rfl)) rfl rfl rfl rfl) ?_
        refine snil ?_
        refine f_ret ?_
        refine ends_ret (res_eq (res1 rfl (res_tmp rfl (Sees.of rfl))) ?_)
        exfalso
        rcases hc2 with h | ⟨h, h3⟩
        · exact h hcs.1
        · rw [show ((i : Int) - 1).toNat = i - 1 by omega] at h3
          have := hcs.2 (by omega)
          omega
      · intro hc2
        try simp only [bs] at hc2
        refine f_skip ?_
        refine f_nil ?_
        show AWs _ _ _ _ _
        refine f_region ?_
        refine scons (CStep.step (PStep.c (p_move (y := .val _) rfl (Sees.of rfl) rfl)) rfl rfl rfl rfl) ?_
        refine scons (CStep.step (PStep.c (p_add rfl (Sees.of rfl) (Sees.of rfl) (by omega))) rfl rfl rfl rfl) ?_
        refine scons (CStep.step (PStep.c (p_assign (y := .val _) rfl (Sees.of rfl) rfl)) rfl rfl rfl rfl) ?_
        refine snil ?_
        refine f_back ⟨i + 1, ?_, ?_, le_ofL ⟨rfl, rfl, rfl, trivial⟩ rfl⟩
        · omega
        · omega
    · intro hc1
      try simp only [bs] at hc1
      refine f_exit ?_
      show AWs _ _ _ _ _
      refine f_seq ?_
      refine f_region ?_
      refine scons (CStep.step (PStep.c (p_assign (y := .val _) rfl (Sees.of rfl) rfl)) rfl rfl rfl rfl) ?_
      refine snil ?_
      refine f_ret ?_
      refine ends_ret (res_eq (res1 rfl (res_tmp rfl (Sees.of rfl))) ?_)
      rfl

end Go.Um
