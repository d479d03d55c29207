/- Walks of Go functions of this seat, each by its contract. No condition beyond what each theorem says. -/
import Derived.Test.YtpjenbbalengoaaBB
import Derived.Test.YtpjenbbalengoaaWCnf
import Derived.Test.YtpjenbbalengoaaPA
import Derived.Test.YtpjenbbalengoaaProg
import Derived.KernelRfl
set_option maxRecDepth 4000
namespace Go.Um
open Go Go.RowKit

theorem wProp_agg201 : IsAgg Go.Proofs.Try.prog 201 true := by unfold IsAgg; kernel_rfl
theorem wProp_agg3 : IsAgg Go.Proofs.Try.prog 3 false := by unfold IsAgg; kernel_rfl
theorem wProp_agg33 : IsAgg Go.Proofs.Try.prog 33 false := by unfold IsAgg; kernel_rfl
theorem wProp_byt3 : Bytes Go.Proofs.Try.prog 3 8 := by unfold Bytes; kernel_rfl
theorem wProp_fld201_0 : IsField Go.Proofs.Try.prog 201 0 0 33 := by unfold IsField; kernel_rfl
theorem wProp_fld201_1 : IsField Go.Proofs.Try.prog 201 1 1 33 := by unfold IsField; kernel_rfl
theorem wProp_fld201_2 : IsField Go.Proofs.Try.prog 201 2 2 3 := by unfold IsField; kernel_rfl
theorem wProp_isf190 : IsFn Go.Proofs.Try.prog 190 := by unfold IsFn; kernel_rfl
theorem wProp_isf191 : IsFn Go.Proofs.Try.prog 191 := by unfold IsFn; kernel_rfl
theorem wProp_isf78 : IsFn Go.Proofs.Try.prog 78 := by unfold IsFn; kernel_rfl
theorem wProp_isl33 : IsSlice Go.Proofs.Try.prog 33 3 := by unfold IsSlice; kernel_rfl
theorem wProp_isl37 : IsSlice Go.Proofs.Try.prog 37 33 := by unfold IsSlice; kernel_rfl
theorem wProp_mix : (Go.Proofs.Try.prog).follows .mixedOrders = true := by kernel_rfl
theorem wProp_siz201 : Size Go.Proofs.Try.prog 201 3 := by unfold Size; kernel_rfl
theorem wProp_siz3 : Size Go.Proofs.Try.prog 3 1 := by unfold Size; kernel_rfl
theorem wProp_siz33 : Size Go.Proofs.Try.prog 33 1 := by unfold Size; kernel_rfl
theorem wProp_zer201 : Zero Go.Proofs.Try.prog 201 (.agg #[(.slice none 0 0), (.slice none 0 0), (.int .i64 0)]) := by unfold Zero; kernel_rfl
theorem wProp_zer3 : Zero Go.Proofs.Try.prog 3 (.int .i64 0) := by unfold Zero; kernel_rfl

theorem falseIn_spec (l t : List Int) (b : Int) (hF : Sp.Fine l) :
    Spec Go.Proofs.Try.prog 190 [.val (ints l), .val (ints t), iv b] (D.bool (Sp.falseIn l t b)) := by
  refine spec_of' Go.Proofs.Try.func190 rfl Go.Proofs.Try.ntmps190 rfl ?_
  refine f_seq ?_
  refine f_wf (.tmp 0) rfl (fun hwf => ?_) (by simp)
  have hlen : l.length ≤ 140737488355328 := hwf.1
  clear hwf
  refine f_region ?_
  refine scons (CStep.step (PStep.c (p_assign (y := .val _) rfl (Sees.of rfl) rfl)) rfl rfl rfl rfl) ?_
  refine snil ?_
  refine f_seq ?_
  refine f_seq ?_
  refine f_region ?_
  refine scons (CStep.step (PStep.c (p_assign (y := .val _) rfl (Sees.of rfl) rfl)) rfl rfl rfl rfl) ?_
  refine snil ?_
  refine f_block ?_
  refine f_loop (α := Nat) (fun i => i ≤ l.length ∧ ∀ y ∈ l.take i, (decide (y = b) || decide (-y ∈ t)) = true) (fun i => [(7, iv i), (0, .val (ints l)), (1, .val (ints t)), (2, iv b)]) (fun i => l.length - i) 0 ?_ ?_ ?_
  · exact ⟨Nat.zero_le _, by simp⟩
  · exact le_ofL ⟨rfl, rfl, rfl, rfl, trivial⟩ rfl
  · rintro i ⟨hi, hp⟩
    refine f_seq ?_
    refine f_seq ?_
    refine f_region ?_
    refine scons (CStep.step (PStep.c (p_move (y := .val _) rfl (Sees.of rfl) rfl)) rfl rfl rfl rfl) ?_
    refine scons (CStep.step (PStep.c (p_move (y := .val _) rfl (Sees.of rfl) rfl)) rfl rfl rfl rfl) ?_
    refine scons (CStep.step (PStep.c (p_len rfl wProp_isl33 (Sees.of rfl))) rfl rfl rfl rfl) ?_
    refine scons (CStep.step (PStep.c (p_lss rfl (Sees.of rfl) (Sees.of rfl))) rfl rfl rfl rfl) ?_
    refine snil ?_
    refine f_cond rfl ?_ ?_
    · intro hc1
      try simp only [bs] at hc1
      refine f_skip ?_
      refine f_seq ?_
      refine f_block ?_
      refine f_seq ?_
      have hx := hF _ (Sp.getD_mem l i 0 (by omega))
      refine f_region ?_
      refine scons (CStep.step (PStep.c (p_move (y := .val _) rfl (Sees.of rfl) rfl)) rfl rfl rfl rfl) ?_
      refine scons (CStep.step (PStep.c (p_move (y := .val _) rfl (Sees.of rfl) rfl)) rfl rfl rfl rfl) ?_
      refine scons (CStep.step (PStep.c ((by first | exact p_indexN rfl wProp_isl33 wProp_siz3 (Sees.of rfl) (Sees.of rfl) (by omega) | exact p_index rfl wProp_isl33 wProp_siz3 (Sees.of rfl) (Sees.of rfl) (by omega) (by omega)))) rfl rfl rfl rfl) ?_
      refine scons (CStep.step (PStep.c (p_load rfl wProp_agg3 (Sees.of rfl) rfl)) rfl rfl rfl rfl) ?_
      refine scons (CStep.step (PStep.c (p_move (y := .val _) rfl (Sees.of rfl) rfl)) rfl rfl rfl rfl) ?_
      refine scons (CStep.step (PStep.c (p_neq rfl (Sees.of rfl) (Sees.of rfl))) rfl rfl rfl rfl) ?_
      refine scons (CStep.step (PStep.c (p_move (y := .val _) rfl (Sees.of rfl) rfl)) rfl rfl rfl rfl) ?_
      refine scons (CStep.guard rfl rfl rfl (fun hg0 => PStep.c (p_move (y := .val _) rfl (Sees.of rfl) rfl)) rfl rfl rfl rfl rfl) ?_
      refine scons (CStep.guard rfl rfl rfl (fun hg0 => PStep.c (p_move (y := .val _) rfl (Sees.of rfl) rfl)) rfl rfl rfl rfl rfl) ?_
      refine scons (CStep.guard rfl rfl rfl (fun hg0 => PStep.c (p_move (y := .val _) rfl (Sees.of rfl) rfl)) rfl rfl rfl rfl rfl) ?_
      refine scons (CStep.guard rfl rfl rfl (fun hg0 => by have hp0 := hg0; (try simp only [bs] at hp0); exact PStep.c ((by first | exact p_indexN rfl wProp_isl33 wProp_siz3 (Sees.gv' rfl hg0) (Sees.gv' rfl hg0) (by omega) | exact p_index rfl wProp_isl33 wProp_siz3 (Sees.gv' rfl hg0) (Sees.gv' rfl hg0) (by omega) (by omega)))) rfl rfl rfl rfl rfl) ?_
      refine scons (CStep.guard rfl rfl rfl (fun hg0 => PStep.c (p_load rfl wProp_agg3 (Sees.gv' rfl hg0) rfl)) rfl rfl rfl rfl rfl) ?_
      refine scons (CStep.guard rfl rfl rfl (fun hg0 => by have hp0 := hg0; (try simp only [bs] at hp0); exact PStep.c (p_neg rfl (Sees.gv' rfl hg0) (by omega))) rfl rfl rfl rfl rfl) ?_
      refine scons (CStep.guard rfl rfl rfl (fun hg0 => c_call rfl wProp_isf78 ⟨_, _, rfl, (Sees.gv' rfl hg0), rfl, ⟨_, _, rfl, (Sees.gv' rfl hg0), rfl, rfl⟩⟩ (has_spec _ _)) rfl rfl rfl rfl rfl) ?_
      refine scons (CStep.guard rfl rfl rfl (fun hg0 => PStep.c (p_not rfl (Sees.gv' rfl hg0))) rfl rfl rfl rfl rfl) ?_
      refine scons (CStep.step (PStep.c (p_and rfl (Sees.of rfl) (fun h => Sees.gv' rfl (beq_of_eq h)) (Sees.of rfl))) rfl rfl rfl rfl) ?_
      refine snil ?_
      refine f_cond rfl ?_ ?_
      · intro hc2
        try simp only [bs] at hc2
        refine f_seq ?_
        refine f_region ?_
        refine scons (CStep.step (PStep.c (p_assign (y := .val _) rfl (Sees.of rfl) rfl)) rfl rfl rfl rfl) ?_
        refine snil ?_
        refine f_ret ?_
        refine ends_ret (res_eq (res1 rfl (res_tmp rfl (Sees.of rfl))) ?_)
        rw [Sp.falseIn, Sp.all_not (i := i) (z := 0) (by omega) (by rw [Bool.or_eq_false_iff, decide_eq_false_iff_not, decide_eq_false_iff_not]; exact hc2)]
      · intro hc2
        try simp only [bs] at hc2
        refine f_skip ?_
        refine f_nil ?_
        show AWs _ _ _ _ _
        refine f_region ?_
        refine scons (CStep.step (PStep.c (p_move (y := .val _) rfl (Sees.of rfl) rfl)) rfl rfl rfl rfl) ?_
        refine scons (CStep.step (PStep.c (p_add rfl (Sees.of rfl) (Sees.of rfl) (by omega))) rfl rfl rfl rfl) ?_
        refine scons (CStep.step (PStep.c (p_assign (y := .val _) rfl (Sees.of rfl) rfl)) rfl rfl rfl rfl) ?_
        refine snil ?_
        refine f_back ⟨i + 1, ?_, ?_, le_ofL ⟨rfl, rfl, rfl, rfl, trivial⟩ rfl⟩
        · exact ⟨by omega, Sp.step_all (z := 0) (by omega) hp (by rw [Bool.or_eq_true, decide_eq_true_eq, decide_eq_true_eq]; exact hc2)⟩
        · omega
    · intro hc1
      try simp only [bs] at hc1
      refine f_exit ?_
      show AWs _ _ _ _ _
      refine f_seq ?_
      refine f_region ?_
      refine scons (CStep.step (PStep.c (p_assign (y := .val _) rfl (Sees.of rfl) rfl)) rfl rfl rfl rfl) ?_
      refine snil ?_
      refine f_ret ?_
      refine ends_ret (res_eq (res1 rfl (res_tmp rfl (Sees.of rfl))) ?_)
      rw [Sp.falseIn, Sp.all_end (by omega) hp]

theorem must_spec (l t : List Int) (hF : Sp.Fine l) :
    Spec Go.Proofs.Try.prog 191 [.val (ints l), .val (ints t)] (di (Sp.must l t)) := by
  refine spec_of' Go.Proofs.Try.func191 rfl Go.Proofs.Try.ntmps191 rfl ?_
  refine f_seq ?_
  refine f_wf (.tmp 0) rfl (fun hwf => ?_) (by simp)
  have hlen : l.length ≤ 140737488355328 := hwf.1
  clear hwf
  refine f_region ?_
  refine scons (CStep.step (PStep.c (p_assign (y := .val _) rfl (Sees.of rfl) rfl)) rfl rfl rfl rfl) ?_
  refine snil ?_
  refine f_seq ?_
  refine f_seq ?_
  refine f_region ?_
  refine scons (CStep.step (PStep.c (p_assign (y := .val _) rfl (Sees.of rfl) rfl)) rfl rfl rfl rfl) ?_
  refine snil ?_
  refine f_block ?_
  refine f_loop (α := Nat) (fun i => i ≤ l.length ∧ ∀ y ∈ l.take i, Sp.free t y = false) (fun i => [(5, iv i), (0, .val (ints l)), (1, .val (ints t))]) (fun i => l.length - i) 0 ?_ ?_ ?_
  · exact ⟨Nat.zero_le _, by simp⟩
  · exact le_ofL ⟨rfl, rfl, rfl, trivial⟩ rfl
  · rintro i ⟨hi, hp⟩
    refine f_seq ?_
    refine f_seq ?_
    refine f_region ?_
    refine scons (CStep.step (PStep.c (p_move (y := .val _) rfl (Sees.of rfl) rfl)) rfl rfl rfl rfl) ?_
    refine scons (CStep.step (PStep.c (p_move (y := .val _) rfl (Sees.of rfl) rfl)) rfl rfl rfl rfl) ?_
    refine scons (CStep.step (PStep.c (p_len rfl wProp_isl33 (Sees.of rfl))) rfl rfl rfl rfl) ?_
    refine scons (CStep.step (PStep.c (p_lss rfl (Sees.of rfl) (Sees.of rfl))) rfl rfl rfl rfl) ?_
    refine snil ?_
    refine f_cond rfl ?_ ?_
    · intro hc1
      try simp only [bs] at hc1
      refine f_skip ?_
      refine f_seq ?_
      refine f_block ?_
      refine f_seq ?_
      have hx := hF _ (Sp.getD_mem l i 0 (by omega))
      refine f_region ?_
      refine scons (CStep.step (PStep.c (p_move (y := .val _) rfl (Sees.of rfl) rfl)) rfl rfl rfl rfl) ?_
      refine scons (CStep.step (PStep.c (p_move (y := .val _) rfl (Sees.of rfl) rfl)) rfl rfl rfl rfl) ?_
      refine scons (CStep.step (PStep.c (p_move (y := .val _) rfl (Sees.of rfl) rfl)) rfl rfl rfl rfl) ?_
      refine scons (CStep.step (PStep.c ((by first | exact p_indexN rfl wProp_isl33 wProp_siz3 (Sees.of rfl) (Sees.of rfl) (by omega) | exact p_index rfl wProp_isl33 wProp_siz3 (Sees.of rfl) (Sees.of rfl) (by omega) (by omega)))) rfl rfl rfl rfl) ?_
      refine scons (CStep.step (PStep.c (p_load rfl wProp_agg3 (Sees.of rfl) rfl)) rfl rfl rfl rfl) ?_
      refine scons (CStep.step (c_call rfl wProp_isf78 ⟨_, _, rfl, (Sees.of rfl), rfl, ⟨_, _, rfl, (Sees.of rfl), rfl, rfl⟩⟩ (has_spec _ _)) rfl rfl rfl rfl) ?_
      refine scons (CStep.step (PStep.c (p_not rfl (Sees.of rfl))) rfl rfl rfl rfl) ?_
      refine scons (CStep.step (PStep.c (p_move (y := .val _) rfl (Sees.of rfl) rfl)) rfl rfl rfl rfl) ?_
      refine scons (CStep.guard rfl rfl rfl (fun hg0 => PStep.c (p_move (y := .val _) rfl (Sees.of rfl) rfl)) rfl rfl rfl rfl rfl) ?_
      refine scons (CStep.guard rfl rfl rfl (fun hg0 => PStep.c (p_move (y := .val _) rfl (Sees.of rfl) rfl)) rfl rfl rfl rfl rfl) ?_
      refine scons (CStep.guard rfl rfl rfl (fun hg0 => PStep.c (p_move (y := .val _) rfl (Sees.of rfl) rfl)) rfl rfl rfl rfl rfl) ?_
      refine scons (CStep.guard rfl rfl rfl (fun hg0 => by have hp0 := hg0; (try simp only [bs] at hp0); exact PStep.c ((by first | exact p_indexN rfl wProp_isl33 wProp_siz3 (Sees.gv' rfl hg0) (Sees.gv' rfl hg0) (by omega) | exact p_index rfl wProp_isl33 wProp_siz3 (Sees.gv' rfl hg0) (Sees.gv' rfl hg0) (by omega) (by omega)))) rfl rfl rfl rfl rfl) ?_
      refine scons (CStep.guard rfl rfl rfl (fun hg0 => PStep.c (p_load rfl wProp_agg3 (Sees.gv' rfl hg0) rfl)) rfl rfl rfl rfl rfl) ?_
      refine scons (CStep.guard rfl rfl rfl (fun hg0 => by have hp0 := hg0; (try simp only [bs] at hp0); exact PStep.c (p_neg rfl (Sees.gv' rfl hg0) (by omega))) rfl rfl rfl rfl rfl) ?_
      refine scons (CStep.guard rfl rfl rfl (fun hg0 => c_call rfl wProp_isf78 ⟨_, _, rfl, (Sees.gv' rfl hg0), rfl, ⟨_, _, rfl, (Sees.gv' rfl hg0), rfl, rfl⟩⟩ (has_spec _ _)) rfl rfl rfl rfl rfl) ?_
      refine scons (CStep.guard rfl rfl rfl (fun hg0 => PStep.c (p_not rfl (Sees.gv' rfl hg0))) rfl rfl rfl rfl rfl) ?_
      refine scons (CStep.step (PStep.c (p_and rfl (Sees.of rfl) (fun h => Sees.gv' rfl (beq_of_eq h)) (Sees.of rfl))) rfl rfl rfl rfl) ?_
      refine snil ?_
      refine f_cond rfl ?_ ?_
      · intro hc2
        try simp only [bs] at hc2
        refine f_seq ?_
        refine f_seq ?_
        refine f_region ?_
        refine scons (CStep.step (PStep.c (p_move (y := .val _) rfl (Sees.of rfl) rfl)) rfl rfl rfl rfl) ?_
        refine scons (CStep.step (PStep.c (p_move (y := .val _) rfl (Sees.of rfl) rfl)) rfl rfl rfl rfl) ?_
        refine scons (CStep.step (PStep.c (p_move (y := .val _) rfl (Sees.of rfl) rfl)) rfl rfl rfl rfl) ?_
        refine scons (CStep.step (PStep.c (p_move (y := .val _) rfl (Sees.of rfl) rfl)) rfl rfl rfl rfl) ?_
        refine scons (CStep.step (PStep.c ((by first | exact p_indexN rfl wProp_isl33 wProp_siz3 (Sees.of rfl) (Sees.of rfl) (by omega) | exact p_index rfl wProp_isl33 wProp_siz3 (Sees.of rfl) (Sees.of rfl) (by omega) (by omega)))) rfl rfl rfl rfl) ?_
        refine scons (CStep.step (PStep.c (p_load rfl wProp_agg3 (Sees.of rfl) rfl)) rfl rfl rfl rfl) ?_
        refine scons (CStep.step (c_call rfl wProp_isf190 ⟨_, _, rfl, (Sees.of rfl), rfl, ⟨_, _, rfl, (Sees.of rfl), rfl, ⟨_, _, rfl, (Sees.of rfl), rfl, rfl⟩⟩⟩ (falseIn_spec l t (l.getD i 0) hF)) rfl rfl rfl rfl) ?_
        refine snil ?_
        refine f_cond rfl ?_ ?_
        · intro hc3
          try simp only [bs] at hc3
          refine f_seq ?_
          refine f_region ?_
          refine scons (CStep.step (PStep.c (p_move (y := .val _) rfl (Sees.of rfl) rfl)) rfl rfl rfl rfl) ?_
          refine scons (CStep.step (PStep.c (p_move (y := .val _) rfl (Sees.of rfl) rfl)) rfl rfl rfl rfl) ?_
          refine scons (CStep.step (PStep.c ((by first | exact p_indexN rfl wProp_isl33 wProp_siz3 (Sees.of rfl) (Sees.of rfl) (by omega) | exact p_index rfl wProp_isl33 wProp_siz3 (Sees.of rfl) (Sees.of rfl) (by omega) (by omega)))) rfl rfl rfl rfl) ?_
          refine scons (CStep.step (PStep.c (p_load rfl wProp_agg3 (Sees.of rfl) rfl)) rfl rfl rfl rfl) ?_
          refine scons (CStep.step (PStep.c (p_assign (y := .val _) rfl (Sees.of rfl) rfl)) rfl rfl rfl rfl) ?_
          refine snil ?_
          refine f_ret ?_
          refine ends_ret (res_eq (res1 rfl (res_tmp rfl (Sees.of rfl))) ?_)
          rw [Sp.must, Sp.find_at (z := 0) (by omega) hp (by unfold Sp.free; rw [Bool.and_eq_true, Bool.not_eq_true', Bool.not_eq_true', decide_eq_false_iff_not, decide_eq_false_iff_not]; exact hc2)]
          show _ = di (if Sp.falseIn l t (l.getD i 0) = true then l.getD i 0 else 0)
          rw [if_pos hc3]
        · intro hc3
          try simp only [bs] at hc3
          refine f_skip ?_
          refine f_seq ?_
          refine f_region ?_
          refine scons (CStep.step (PStep.c (p_assign (y := .val _) rfl (Sees.of rfl) rfl)) rfl rfl rfl rfl) ?_
          refine snil ?_
          refine f_ret ?_
          refine ends_ret (res_eq (res1 rfl (res_tmp rfl (Sees.of rfl))) ?_)
          rw [Sp.must, Sp.find_at (z := 0) (by omega) hp (by unfold Sp.free; rw [Bool.and_eq_true, Bool.not_eq_true', Bool.not_eq_true', decide_eq_false_iff_not, decide_eq_false_iff_not]; exact hc2)]
          show _ = di (if Sp.falseIn l t (l.getD i 0) = true then l.getD i 0 else 0)
          rw [if_neg (by rw [hc3]; decide)]
      · intro hc2
        try simp only [bs] at hc2
        refine f_skip ?_
        refine f_nil ?_
        show AWs _ _ _ _ _
        refine f_region ?_
        refine scons (CStep.step (PStep.c (p_move (y := .val _) rfl (Sees.of rfl) rfl)) rfl rfl rfl rfl) ?_
        refine scons (CStep.step (PStep.c (p_add rfl (Sees.of rfl) (Sees.of rfl) (by omega))) rfl rfl rfl rfl) ?_
        refine scons (CStep.step (PStep.c (p_assign (y := .val _) rfl (Sees.of rfl) rfl)) rfl rfl rfl rfl) ?_
        refine snil ?_
        refine f_back ⟨i + 1, ?_, ?_, le_ofL ⟨rfl, rfl, rfl, trivial⟩ rfl⟩
        · exact ⟨by omega, Sp.step_all (z := 0) (by omega) hp (by unfold Sp.free; rw [Bool.and_eq_false_iff, Bool.not_eq_false', Bool.not_eq_false', decide_eq_true_eq, decide_eq_true_eq]; exact hc2)⟩
        · omega
    · intro hc1
      try simp only [bs] at hc1
      refine f_exit ?_
      show AWs _ _ _ _ _
      refine f_seq ?_
      refine f_region ?_
      refine scons (CStep.step (PStep.c (p_assign (y := .val _) rfl (Sees.of rfl) rfl)) rfl rfl rfl rfl) ?_
      refine snil ?_
      refine f_ret ?_
      refine ends_ret (res_eq (res1 rfl (res_tmp rfl (Sees.of rfl))) ?_)
      rw [Sp.must, Sp.find_none (by omega) hp]

theorem on_spec (ls : List (List Int)) (t0 w0 : List Int) (a0 : Int) (hF : ∀ l ∈ ls, Sp.Fine l) (hB : t0.length + Sp.room ls t0 ≤ 1000000000) (hW : w0.length + Sp.room ls t0 ≤ 1000000000) :
    Spec Go.Proofs.Try.prog 179 [.val (intss ls), .val (trail t0 w0 a0)] (trail (Sp.on ls t0 w0).1 (Sp.on ls t0 w0).2.1 (Sp.on ls t0 w0).2.2) := by
  refine spec_of' Go.Proofs.Try.func179 rfl Go.Proofs.Try.ntmps179 rfl ?_
  refine f_seq ?_
  refine f_wf (.tmp 0) rfl (fun hwf => ?_) (by simp)
  have hlen : ls.length ≤ 140737488355328 := hwf.1
  clear hwf
  refine f_region ?_
  refine scons (r_box (ob := 10003) rfl (Sees.of rfl) rfl rfl rfl rfl rfl rfl) ?_
  refine scons (r_alloc (ob := 10004) rfl wProp_zer201 rfl rfl rfl rfl rfl rfl) ?_
  refine snil ?_
  refine f_block ?_
  refine f_loop (α := List Int × List Int × Int) (fun (t, w, a) => Sp.on ls t0 w0 = Sp.on ls t w ∧ t.length + Sp.room ls t ≤ 1000000000 ∧ w.length + Sp.room ls t ≤ 1000000000) (fun (t, w, a) => [(10003, .box 0 (.ccons (.val (ints t)) (.ccons (.val (ints w)) (.ccons (iv a) .cnil)))), (0, .val (intss ls)), (3, .ref 10003 0 0), (4, .ref 10004 0 0), (10004, .box 0 (.ccons (.emp) (.ccons (.emp) (.ccons (iv 0) .cnil))))]) (fun (t, w, a) => Sp.room ls t) (t0, w0, a0) ?_ ?_ ?_
  · exact ⟨rfl, hB, hW⟩
  · exact le_ofL ⟨rfl, rfl, rfl, rfl, rfl, trivial⟩ rfl
  · rintro ⟨t, w, a⟩ ⟨hon, hT, hWw⟩
    refine f_block ?_
    refine f_seq ?_
    refine f_region ?_
    refine scons (CStep.step (PStep.c (p_fieldRef rfl wProp_fld201_2 wProp_siz3 rfl (Sees.of rfl) rfl)) rfl rfl rfl rfl) ?_
    refine scons (r_store rfl wProp_siz3 rfl rfl rfl (Sees.of rfl) rfl rfl (Sees.of rfl) (one_val rfl)) ?_
    refine snil ?_
    refine f_seq ?_
    refine f_seq ?_
    refine f_region ?_
    refine scons (CStep.step (PStep.c (p_move (y := .val _) rfl (Sees.of rfl) rfl)) rfl rfl rfl rfl) ?_
    refine scons (CStep.step (PStep.c (p_len rfl wProp_isl37 (Sees.of rfl))) rfl rfl rfl rfl) ?_
    refine scons (CStep.step (PStep.c (p_sub rfl (Sees.of rfl) (Sees.of rfl) (by omega))) rfl rfl rfl rfl) ?_
    refine scons (CStep.step (PStep.c (p_assign (y := .val _) rfl (Sees.of rfl) rfl)) rfl rfl rfl rfl) ?_
    refine snil ?_
    refine f_block ?_
    refine f_loop (α := Nat) (fun j => j ≤ ls.length) (fun j => [(5, iv ((j : Int) - 1)), (10003, .box 0 (.ccons (.val (ints t)) (.ccons (.val (ints w)) (.ccons (iv (Sp.idxFrom (fun l => Sp.falseIn l t 0) ls j)) .cnil)))), (0, .val (intss ls)), (3, .ref 10003 0 0), (4, .ref 10004 0 0), (10004, .box 0 (.ccons (.emp) (.ccons (.emp) (.ccons (iv 0) .cnil))))]) (fun j => j) ls.length ?_ ?_ ?_
    · exact Nat.le_refl _
    · exact le_ofL ⟨rfl, (by rw [Sp.idxFrom_end]; rfl), rfl, rfl, rfl, rfl, trivial⟩ rfl
    · rintro j hj
      refine f_seq ?_
      refine f_seq ?_
      refine f_region ?_
      refine scons (CStep.step (PStep.c (p_move (y := .val _) rfl (Sees.of rfl) rfl)) rfl rfl rfl rfl) ?_
      refine scons (CStep.step (PStep.c (p_geq rfl (Sees.of rfl) (Sees.of rfl))) rfl rfl rfl rfl) ?_
      refine snil ?_
      refine f_cond rfl ?_ ?_
      · intro hc1
        try simp only [bs] at hc1
        refine f_skip ?_
        refine f_seq ?_
        refine f_block ?_
        refine f_seq ?_
        refine f_draw wProp_mix (by kernel_rfl) ?_
        refine dcons (CStep.step (PStep.c (p_move (y := .val _) rfl (Sees.of rfl) rfl)) rfl rfl rfl rfl) ?_
        refine dcons (CStep.step (PStep.c (p_move (y := .val _) rfl (Sees.of rfl) rfl)) rfl rfl rfl rfl) ?_
        refine dcons (CStep.step (PStep.c ((by first | exact p_indexN rfl wProp_isl37 wProp_siz33 (Sees.of rfl) (Sees.of rfl) (by omega) | exact p_index rfl wProp_isl37 wProp_siz33 (Sees.of rfl) (Sees.of rfl) (by omega) (by omega)))) rfl rfl rfl rfl) ?_
        refine dcons (CStep.step (PStep.c (p_load rfl wProp_agg33 (Sees.of rfl) rfl)) rfl rfl rfl rfl) ?_
        refine dcons (CStep.step (PStep.c (p_fieldRef rfl wProp_fld201_0 wProp_siz33 rfl (Sees.of rfl) rfl)) rfl rfl rfl rfl) ?_
        refine dcons (CStep.step (PStep.c (p_loadB (y := .val _) rfl wProp_agg33 (Sees.of rfl) rfl rfl rfl rfl)) rfl rfl rfl rfl) ?_
        refine dcons (CStep.step (c_call rfl wProp_isf190 ⟨_, _, rfl, (Sees.of rfl), rfl, ⟨_, _, rfl, (Sees.of rfl), rfl, ⟨_, _, rfl, (Sees.of rfl), rfl, rfl⟩⟩⟩ (falseIn_spec _ _ _ (hF _ (Sp.getD_mem ls _ [] (by omega))))) rfl rfl rfl rfl) ?_
        refine dnil (by kernel_rfl) ?_
        refine f_cond rfl ?_ ?_
        · intro hc2
          try simp only [bs] at hc2
          refine f_region ?_
          refine scons (CStep.step (PStep.c (p_move (y := .val _) rfl (Sees.of rfl) rfl)) rfl rfl rfl rfl) ?_
          refine scons (CStep.step (PStep.c (p_fieldRef rfl wProp_fld201_2 wProp_siz3 rfl (Sees.of rfl) rfl)) rfl rfl rfl rfl) ?_
          refine scons (r_store rfl wProp_siz3 rfl rfl rfl (Sees.of rfl) rfl rfl (Sees.of rfl) (one_val rfl)) ?_
          refine snil ?_
          refine f_nil ?_
          show AWs _ _ _ _ _
          refine f_region ?_
          refine scons (CStep.step (PStep.c (p_move (y := .val _) rfl (Sees.of rfl) rfl)) rfl rfl rfl rfl) ?_
          refine scons (CStep.step (PStep.c (p_sub rfl (Sees.of rfl) (Sees.of rfl) (by omega))) rfl rfl rfl rfl) ?_
          refine scons (CStep.step (PStep.c (p_assign (y := .val _) rfl (Sees.of rfl) rfl)) rfl rfl rfl rfl) ?_
          refine snil ?_
          refine f_back ⟨j - 1, ?_, ?_, le_ofL ⟨(by have e : ((j - 1 : Nat) : Int) = (j : Int) - 1 := (by omega); rw [e]; rfl), (by rw [Sp.idxFrom_yes (z := []) (by omega) (by omega) hc2]; rfl), rfl, rfl, rfl, rfl, trivial⟩ rfl⟩
          · omega
          · omega
        · intro hc2
          try simp only [bs] at hc2
          refine f_skip ?_
          refine f_nil ?_
          show AWs _ _ _ _ _
          refine f_region ?_
          refine scons (CStep.step (PStep.c (p_move (y := .val _) rfl (Sees.of rfl) rfl)) rfl rfl rfl rfl) ?_
          refine scons (CStep.step (PStep.c (p_sub rfl (Sees.of rfl) (Sees.of rfl) (by omega))) rfl rfl rfl rfl) ?_
          refine scons (CStep.step (PStep.c (p_assign (y := .val _) rfl (Sees.of rfl) rfl)) rfl rfl rfl rfl) ?_
          refine snil ?_
          refine f_back ⟨j - 1, ?_, ?_, le_ofL ⟨(by have e : ((j - 1 : Nat) : Int) = (j : Int) - 1 := (by omega); rw [e]; rfl), (by rw [Sp.idxFrom_no (z := []) (by omega) (by omega) hc2]; rfl), rfl, rfl, rfl, rfl, trivial⟩ rfl⟩
          · omega
          · omega
      · intro hc1
        try simp only [bs] at hc1
        obtain rfl : j = 0 := by omega
        refine f_exit ?_
        show AWs _ _ _ _ _
        refine f_seq ?_
        refine f_seq ?_
        refine f_region ?_
        refine scons (CStep.step (PStep.c (p_fieldRef rfl wProp_fld201_2 wProp_siz3 rfl (Sees.of rfl) rfl)) rfl rfl rfl rfl) ?_
        refine scons (CStep.step (PStep.c (p_loadB (y := .val _) rfl wProp_agg3 (Sees.of rfl) rfl rfl rfl rfl)) rfl rfl rfl rfl) ?_
        refine scons (CStep.step (PStep.c (p_geq rfl (Sees.of rfl) (Sees.of rfl))) rfl rfl rfl rfl) ?_
        refine snil ?_
        refine f_cond rfl ?_ ?_
        · intro hc3
          try simp only [bs] at hc3
          refine f_seq ?_
          refine f_region ?_
          refine scons (CStep.step (PStep.c (p_loadBS rfl wProp_agg201 wProp_siz201 (Sees.of rfl) rfl rfl rfl)) rfl rfl rfl rfl) ?_
          refine scons (r_storeS rfl wProp_siz201 rfl rfl rfl (Sees.of rfl) rfl (Sees.of rfl) rfl rfl rfl rfl) ?_
          refine snil ?_
          refine f_ret ?_
          refine ends_ret (res_eq (res1 rfl (res_cell (by rfl) rfl rfl wProp_agg201 wProp_siz201 rfl rfl)) ?_)
          have hc : 0 ≤ Sp.conf ls t := by rw [Sp.conf, ← Sp.idxFrom_zero]; exact hc3
          rw [hon, Sp.on, if_pos hc, Sp.conf, ← Sp.idxFrom_zero]
          all_goals rfl
        · intro hc3
          try simp only [bs] at hc3
          refine f_skip ?_
          refine f_seq ?_
          refine f_region ?_
          refine scons (CStep.step (PStep.c (p_assign (y := .val _) rfl (Sees.of rfl) rfl)) rfl rfl rfl rfl) ?_
          refine snil ?_
          refine f_seq ?_
          refine f_seq ?_
          refine f_region ?_
          refine scons (CStep.step (PStep.c (p_move (y := .val _) rfl (Sees.of rfl) rfl)) rfl rfl rfl rfl) ?_
          refine scons (CStep.step (PStep.c (p_len rfl wProp_isl37 (Sees.of rfl))) rfl rfl rfl rfl) ?_
          refine scons (CStep.step (PStep.c (p_sub rfl (Sees.of rfl) (Sees.of rfl) (by omega))) rfl rfl rfl rfl) ?_
          refine scons (CStep.step (PStep.c (p_assign (y := .val _) rfl (Sees.of rfl) rfl)) rfl rfl rfl rfl) ?_
          refine snil ?_
          refine f_block ?_
          refine f_loop (α := Nat) (fun m => m ≤ ls.length) (fun m => [(7, iv ((m : Int) - 1)), (6, iv (Sp.idxFrom (fun l => !decide (Sp.must l t = 0)) ls m)), (10003, .box 0 (.ccons (.val (ints t)) (.ccons (.val (ints w)) (.ccons (iv (Sp.idxFrom (fun l => Sp.falseIn l t 0) ls 0)) .cnil)))), (0, .val (intss ls)), (3, .ref 10003 0 0), (4, .ref 10004 0 0), (10004, .box 0 (.ccons (.emp) (.ccons (.emp) (.ccons (iv 0) .cnil))))]) (fun m => m) ls.length ?_ ?_ ?_
          · exact Nat.le_refl _
          · exact le_ofL ⟨rfl, (by rw [Sp.idxFrom_end]; rfl), rfl, rfl, rfl, rfl, rfl, trivial⟩ rfl
          · rintro m hm
            refine f_seq ?_
            refine f_seq ?_
            refine f_region ?_
            refine scons (CStep.step (PStep.c (p_move (y := .val _) rfl (Sees.of rfl) rfl)) rfl rfl rfl rfl) ?_
            refine scons (CStep.step (PStep.c (p_geq rfl (Sees.of rfl) (Sees.of rfl))) rfl rfl rfl rfl) ?_
            refine snil ?_
            refine f_cond rfl ?_ ?_
            · intro hc4
              try simp only [bs] at hc4
              refine f_skip ?_
              refine f_seq ?_
              refine f_block ?_
              refine f_seq ?_
              refine f_draw wProp_mix (by kernel_rfl) ?_
              refine dcons (CStep.step (PStep.c (p_move (y := .val _) rfl (Sees.of rfl) rfl)) rfl rfl rfl rfl) ?_
              refine dcons (CStep.step (PStep.c (p_move (y := .val _) rfl (Sees.of rfl) rfl)) rfl rfl rfl rfl) ?_
              refine dcons (CStep.step (PStep.c ((by first | exact p_indexN rfl wProp_isl37 wProp_siz33 (Sees.of rfl) (Sees.of rfl) (by omega) | exact p_index rfl wProp_isl37 wProp_siz33 (Sees.of rfl) (Sees.of rfl) (by omega) (by omega)))) rfl rfl rfl rfl) ?_
              refine dcons (CStep.step (PStep.c (p_load rfl wProp_agg33 (Sees.of rfl) rfl)) rfl rfl rfl rfl) ?_
              refine dcons (CStep.step (PStep.c (p_fieldRef rfl wProp_fld201_0 wProp_siz33 rfl (Sees.of rfl) rfl)) rfl rfl rfl rfl) ?_
              refine dcons (CStep.step (PStep.c (p_loadB (y := .val _) rfl wProp_agg33 (Sees.of rfl) rfl rfl rfl rfl)) rfl rfl rfl rfl) ?_
              refine dcons (CStep.step (c_call rfl wProp_isf191 ⟨_, _, rfl, (Sees.of rfl), rfl, ⟨_, _, rfl, (Sees.of rfl), rfl, rfl⟩⟩ (must_spec _ _ (hF _ (Sp.getD_mem ls _ [] (by omega))))) rfl rfl rfl rfl) ?_
              refine dcons (CStep.step (PStep.c (p_neq rfl (Sees.of rfl) (Sees.of rfl))) rfl rfl rfl rfl) ?_
              refine dnil (by kernel_rfl) ?_
              refine f_cond rfl ?_ ?_
              · intro hc5
                try simp only [bs] at hc5
                refine f_region ?_
                refine scons (CStep.step (PStep.c (p_move (y := .val _) rfl (Sees.of rfl) rfl)) rfl rfl rfl rfl) ?_
                refine scons (CStep.step (PStep.c (p_assign (y := .val _) rfl (Sees.of rfl) rfl)) rfl rfl rfl rfl) ?_
                refine snil ?_
                refine f_nil ?_
                show AWs _ _ _ _ _
                refine f_region ?_
                refine scons (CStep.step (PStep.c (p_move (y := .val _) rfl (Sees.of rfl) rfl)) rfl rfl rfl rfl) ?_
                refine scons (CStep.step (PStep.c (p_sub rfl (Sees.of rfl) (Sees.of rfl) (by omega))) rfl rfl rfl rfl) ?_
                refine scons (CStep.step (PStep.c (p_assign (y := .val _) rfl (Sees.of rfl) rfl)) rfl rfl rfl rfl) ?_
                refine snil ?_
                refine f_back ⟨m - 1, ?_, ?_, le_ofL ⟨(by have e : ((m - 1 : Nat) : Int) = (m : Int) - 1 := (by omega); rw [e]; rfl), (by rw [Sp.idxFrom_yes (z := []) (by omega) (by omega) (by rw [Bool.not_eq_true', decide_eq_false_iff_not]; exact hc5)]; rfl), rfl, rfl, rfl, rfl, rfl, trivial⟩ rfl⟩
                · omega
                · omega
              · intro hc5
                try simp only [bs] at hc5
                refine f_skip ?_
                refine f_nil ?_
                show AWs _ _ _ _ _
                refine f_region ?_
                refine scons (CStep.step (PStep.c (p_move (y := .val _) rfl (Sees.of rfl) rfl)) rfl rfl rfl rfl) ?_
                refine scons (CStep.step (PStep.c (p_sub rfl (Sees.of rfl) (Sees.of rfl) (by omega))) rfl rfl rfl rfl) ?_
                refine scons (CStep.step (PStep.c (p_assign (y := .val _) rfl (Sees.of rfl) rfl)) rfl rfl rfl rfl) ?_
                refine snil ?_
                refine f_back ⟨m - 1, ?_, ?_, le_ofL ⟨(by have e : ((m - 1 : Nat) : Int) = (m : Int) - 1 := (by omega); rw [e]; rfl), (by rw [Sp.idxFrom_no (z := []) (by omega) (by omega) (by rw [Bool.not_eq_false', decide_eq_true_eq]; exact hc5)]; rfl), rfl, rfl, rfl, rfl, rfl, trivial⟩ rfl⟩
                · omega
                · omega
            · intro hc4
              try simp only [bs] at hc4
              obtain rfl : m = 0 := by omega
              refine f_exit ?_
              show AWs _ _ _ _ _
              refine f_seq ?_
              refine f_seq ?_
              refine f_region ?_
              refine scons (CStep.step (PStep.c (p_move (y := .val _) rfl (Sees.of rfl) rfl)) rfl rfl rfl rfl) ?_
              refine scons (CStep.step (PStep.c (p_lss rfl (Sees.of rfl) (Sees.of rfl))) rfl rfl rfl rfl) ?_
              refine snil ?_
              refine f_cond rfl ?_ ?_
              · intro hc6
                try simp only [bs] at hc6
                refine f_seq ?_
                refine f_region ?_
                refine scons (CStep.step (PStep.c (p_loadBS rfl wProp_agg201 wProp_siz201 (Sees.of rfl) rfl rfl rfl)) rfl rfl rfl rfl) ?_
                refine scons (r_storeS rfl wProp_siz201 rfl rfl rfl (Sees.of rfl) rfl (Sees.of rfl) rfl rfl rfl rfl) ?_
                refine snil ?_
                refine f_ret ?_
                refine ends_ret (res_eq (res1 rfl (res_cell (by rfl) rfl rfl wProp_agg201 wProp_siz201 rfl rfl)) ?_)
                have h1 := (Sp.idxFrom_range (fun l => Sp.falseIn l t 0) ls 0).resolve_right (by omega)
                have hc : ¬ 0 ≤ Sp.conf ls t := by rw [Sp.conf, ← Sp.idxFrom_zero]; omega
                have hu : Sp.unit ls t < 0 := by rw [Sp.unit, ← Sp.idxFrom_zero]; exact hc6
                rw [h1, hon, Sp.on, if_neg hc, dif_pos hu]
                all_goals rfl
              · intro hc6
                try simp only [bs] at hc6
                refine f_skip ?_
                refine f_seq ?_
                have hr := Sp.idxFrom_range (fun l => !decide (Sp.must l t = 0)) ls 0
                refine f_draw wProp_mix (by kernel_rfl) ?_
                refine dcons (r_buildRow (f := di) (za := 0) (xs := []) (by_ := 8) (ob := 10048) rfl rfl wProp_isl33 wProp_siz3 wProp_zer3 rfl rfl (by decide) rfl rfl rfl rfl rfl rfl) ?_
                refine dcons (CStep.step (PStep.c (p_fieldRef rfl wProp_fld201_0 wProp_siz33 rfl (Sees.of rfl) rfl)) rfl rfl rfl rfl) ?_
                refine dcons (CStep.step (PStep.c (p_loadB (y := .val _) rfl wProp_agg33 (Sees.of rfl) rfl rfl rfl rfl)) rfl rfl rfl rfl) ?_
                refine dcons (r_appendR (ob := 10051) rfl wProp_isl33 wProp_siz3 wProp_byt3 wProp_zer3 rfl rfl (Sees.of rfl) rfl (Sees.of rfl) (by simp only [List.length_cons, List.length_nil, List.length_append]; omega) (by simp only [List.length_cons, List.length_nil, List.length_append]; omega) rfl rfl rfl rfl rfl) ?_
                refine dcons (CStep.step (PStep.c (p_move (y := .val _) rfl (Sees.of rfl) rfl)) rfl rfl rfl rfl) ?_
                refine dcons (CStep.step (PStep.c (p_move (y := .val _) rfl (Sees.of rfl) rfl)) rfl rfl rfl rfl) ?_
                refine dcons (CStep.step (PStep.c ((by first | exact p_indexN rfl wProp_isl37 wProp_siz33 (Sees.of rfl) (Sees.of rfl) (by omega) | exact p_index rfl wProp_isl37 wProp_siz33 (Sees.of rfl) (Sees.of rfl) (by omega) (by omega)))) rfl rfl rfl rfl) ?_
                refine dcons (CStep.step (PStep.c (p_load rfl wProp_agg33 (Sees.of rfl) rfl)) rfl rfl rfl rfl) ?_
                refine dcons (CStep.step (PStep.c (p_fieldRef rfl wProp_fld201_0 wProp_siz33 rfl (Sees.of rfl) rfl)) rfl rfl rfl rfl) ?_
                refine dcons (CStep.step (PStep.c (p_loadB (y := .val _) rfl wProp_agg33 (Sees.of rfl) rfl rfl rfl rfl)) rfl rfl rfl rfl) ?_
                refine dcons (CStep.step (c_call rfl wProp_isf191 ⟨_, _, rfl, (Sees.of rfl), rfl, ⟨_, _, rfl, (Sees.of rfl), rfl, rfl⟩⟩ (must_spec _ _ (hF _ (Sp.getD_mem ls _ [] (by omega))))) rfl rfl rfl rfl) ?_
                refine dcons (CStep.step (c_buildSlice (f := di) (za := 0) (xs := [.tmp 58]) rfl rfl wProp_isl33 wProp_siz3 wProp_zer3 rfl rfl ⟨_, _, rfl, (Sees.of rfl), rfl, rfl, rfl⟩) rfl rfl rfl rfl) ?_
                refine dcons (r_appendR (ob := 10060) rfl wProp_isl33 wProp_siz3 wProp_byt3 wProp_zer3 rfl rfl (Sees.of rfl) rfl (Sees.of rfl) (by simp only [List.length_cons, List.length_nil, List.length_append]; omega) (by simp only [List.length_cons, List.length_nil, List.length_append]; omega) rfl rfl rfl rfl rfl) ?_
                refine dcons (CStep.step (PStep.c (p_fieldRef rfl wProp_fld201_0 wProp_siz33 rfl (Sees.of rfl) rfl)) rfl rfl rfl rfl) ?_
                refine dcons (LStep.pre (g_freeze (k := 60) (o1 := 10060) rfl rfl rfl rfl) (r_store rfl wProp_siz33 rfl rfl rfl (Sees.of rfl) rfl rfl (Sees.of rfl) (one_val rfl))) ?_
                refine dnil (by kernel_rfl) ?_
                refine f_region ?_
                refine scons (r_buildRow (f := di) (za := 0) (xs := []) (by_ := 8) (ob := 10062) rfl rfl wProp_isl33 wProp_siz3 wProp_zer3 rfl rfl (by decide) rfl rfl rfl rfl rfl rfl) ?_
                refine scons (CStep.step (PStep.c (p_fieldRef rfl wProp_fld201_1 wProp_siz33 rfl (Sees.of rfl) rfl)) rfl rfl rfl rfl) ?_
                refine scons (CStep.step (PStep.c (p_loadB (y := .val _) rfl wProp_agg33 (Sees.of rfl) rfl rfl rfl rfl)) rfl rfl rfl rfl) ?_
                refine scons (r_appendR (ob := 10062) rfl wProp_isl33 wProp_siz3 wProp_byt3 wProp_zer3 rfl rfl (Sees.of rfl) rfl (Sees.of rfl) (by simp only [List.length_cons, List.length_nil, List.length_append]; omega) (by simp only [List.length_cons, List.length_nil, List.length_append]; omega) rfl rfl rfl rfl rfl) ?_
                refine scons (CStep.step (PStep.c (p_move (y := .val _) rfl (Sees.of rfl) rfl)) rfl rfl rfl rfl) ?_
                refine scons (CStep.step (c_buildSlice (f := di) (za := 0) (xs := [.tmp 66]) rfl rfl wProp_isl33 wProp_siz3 wProp_zer3 rfl rfl ⟨_, _, rfl, (Sees.of rfl), rfl, rfl, rfl⟩) rfl rfl rfl rfl) ?_
                refine scons (r_appendR (ob := 10062) rfl wProp_isl33 wProp_siz3 wProp_byt3 wProp_zer3 rfl rfl (Sees.of rfl) rfl (Sees.of rfl) (by simp only [List.length_cons, List.length_nil, List.length_append]; omega) (by simp only [List.length_cons, List.length_nil, List.length_append]; omega) rfl rfl rfl rfl rfl) ?_
                refine scons (CStep.step (PStep.c (p_fieldRef rfl wProp_fld201_1 wProp_siz33 rfl (Sees.of rfl) rfl)) rfl rfl rfl rfl) ?_
                refine scons (LStep.pre (g_freeze (k := 68) (o1 := 10062) rfl rfl rfl rfl) (r_store rfl wProp_siz33 rfl rfl rfl (Sees.of rfl) rfl rfl (Sees.of rfl) (one_val rfl))) ?_
                refine snil ?_
                refine f_nil ?_
                show AWs _ _ _ _ _
                refine f_back ⟨(t ++ [Sp.must (ls.getD (Sp.idxFrom (fun l => !decide (Sp.must l t = 0)) ls 0).toNat []) t], w ++ [Sp.idxFrom (fun l => !decide (Sp.must l t = 0)) ls 0], Sp.idxFrom (fun l => Sp.falseIn l t 0) ls 0), ?_, ?_, le_ofL ⟨rfl, rfl, rfl, rfl, rfl, trivial⟩ rfl⟩
                · have hc : ¬ 0 ≤ Sp.conf ls t := by rw [Sp.conf, ← Sp.idxFrom_zero]; omega
                  have eu : Sp.idxFrom (fun l => !decide (Sp.must l t = 0)) ls 0 = Sp.unit ls t := Sp.idxFrom_zero _ _
                  have hu : ¬ Sp.unit ls t < 0 := by rw [← eu]; omega
                  have hs := Sp.on_step hu
                  rw [eu]
                  refine ⟨?_, ?_, ?_⟩
                  · rw [hon, Sp.on, if_neg hc, dif_neg hu]
                  · simp only [List.length_append, List.length_cons, List.length_nil]; omega
                  · simp only [List.length_append, List.length_cons, List.length_nil]; omega
                · have eu : Sp.idxFrom (fun l => !decide (Sp.must l t = 0)) ls 0 = Sp.unit ls t := Sp.idxFrom_zero _ _
                  have hu : ¬ Sp.unit ls t < 0 := by rw [← eu]; omega
                  have hs := Sp.on_step hu
                  rw [← eu] at hs
                  exact hs

end Go.Um
