/- Walks of Go functions of this seat, each by its contract. No condition beyond what each theorem says. -/
import Derived.Test.YtpjenbbalengoaaWBet5
import Derived.Test.YtpjenbbalengoaaBt5
import Derived.Test.YtpjenbbalengoaaProg
import Derived.KernelRfl
set_option maxRecDepth 4000
namespace Go.Um
open Go Go.RowKit

theorem wBet6_agg26 : IsAgg Go.Proofs.Try.prog 26 true := by unfold IsAgg; kernel_rfl
theorem wBet6_agg3 : IsAgg Go.Proofs.Try.prog 3 false := by unfold IsAgg; kernel_rfl
theorem wBet6_agg37 : IsAgg Go.Proofs.Try.prog 37 false := by unfold IsAgg; kernel_rfl
theorem wBet6_agg39 : IsAgg Go.Proofs.Try.prog 39 true := by unfold IsAgg; kernel_rfl
theorem wBet6_agg65 : IsAgg Go.Proofs.Try.prog 65 false := by unfold IsAgg; kernel_rfl
theorem wBet6_agg67 : IsAgg Go.Proofs.Try.prog 67 true := by unfold IsAgg; kernel_rfl
theorem wBet6_eq226 : Eq2 Go.Proofs.Try.prog 26 := ⟨_, _, Go.Proofs.Try.underlying26, by decide, by decide, rfl, rfl, Go.Proofs.Try.underlying3, Go.Proofs.Try.underlying3, by kernel_rfl, by kernel_rfl⟩
theorem wBet6_fld26_0 : IsField Go.Proofs.Try.prog 26 0 0 3 := by unfold IsField; kernel_rfl
theorem wBet6_fld39_0 : IsField Go.Proofs.Try.prog 39 0 0 3 := by unfold IsField; kernel_rfl
theorem wBet6_fld39_1 : IsField Go.Proofs.Try.prog 39 1 1 37 := by unfold IsField; kernel_rfl
theorem wBet6_fld67_0 : IsField Go.Proofs.Try.prog 67 0 0 65 := by unfold IsField; kernel_rfl
theorem wBet6_fld79_0 : IsField Go.Proofs.Try.prog 79 0 0 3 := by unfold IsField; kernel_rfl
theorem wBet6_int3 : IsInt Go.Proofs.Try.prog 3 .i64 := by unfold IsInt; kernel_rfl
theorem wBet6_int30 : IsInt Go.Proofs.Try.prog 30 .u64 := by unfold IsInt; kernel_rfl
theorem wBet6_isf17 : IsFn Go.Proofs.Try.prog 17 := by unfold IsFn; kernel_rfl
theorem wBet6_isf32 : IsFn Go.Proofs.Try.prog 32 := by unfold IsFn; kernel_rfl
theorem wBet6_isf33 : IsFn Go.Proofs.Try.prog 33 := by unfold IsFn; kernel_rfl
theorem wBet6_isf35 : IsFn Go.Proofs.Try.prog 35 := by unfold IsFn; kernel_rfl
theorem wBet6_isf36 : IsFn Go.Proofs.Try.prog 36 := by unfold IsFn; kernel_rfl
theorem wBet6_isf39 : IsFn Go.Proofs.Try.prog 39 := by unfold IsFn; kernel_rfl
theorem wBet6_isf40 : IsFn Go.Proofs.Try.prog 40 := by unfold IsFn; kernel_rfl
theorem wBet6_isf41 : IsFn Go.Proofs.Try.prog 41 := by unfold IsFn; kernel_rfl
theorem wBet6_isf42 : IsFn Go.Proofs.Try.prog 42 := by unfold IsFn; kernel_rfl
theorem wBet6_isf43 : IsFn Go.Proofs.Try.prog 43 := by unfold IsFn; kernel_rfl
theorem wBet6_isl63 : IsSlice Go.Proofs.Try.prog 63 171 := by unfold IsSlice; kernel_rfl
theorem wBet6_isl65 : IsSlice Go.Proofs.Try.prog 65 79 := by unfold IsSlice; kernel_rfl
theorem wBet6_siz26 : Size Go.Proofs.Try.prog 26 2 := by unfold Size; kernel_rfl
theorem wBet6_siz3 : Size Go.Proofs.Try.prog 3 1 := by unfold Size; kernel_rfl
theorem wBet6_siz37 : Size Go.Proofs.Try.prog 37 1 := by unfold Size; kernel_rfl
theorem wBet6_siz39 : Size Go.Proofs.Try.prog 39 2 := by unfold Size; kernel_rfl
theorem wBet6_siz65 : Size Go.Proofs.Try.prog 65 1 := by unfold Size; kernel_rfl
theorem wBet6_siz67 : Size Go.Proofs.Try.prog 67 2 := by unfold Size; kernel_rfl
theorem wBet6_siz79 : Size Go.Proofs.Try.prog 79 3 := by unfold Size; kernel_rfl
theorem wBet6_zer26 : Zero Go.Proofs.Try.prog 26 (.agg #[(.int .i64 0), (.int .i64 0)]) := by unfold Zero; kernel_rfl
theorem wBet6_zer67 : Zero Go.Proofs.Try.prog 67 (.agg #[(.slice none 0 0), (.int .i64 0)]) := by unfold Zero; kernel_rfl

set_option maxHeartbeats 2000000 in
theorem BetweenStands_spec (n : Int) (a : List (List Int)) (m : Int) (b : List (List Int)) (l : List Sp.Rs) :
    Spec Go.Proofs.Try.prog 12 [.val (cnf n a), .val (cnf m b), .val (chos l)] (D.bool true) := by
  refine spec_of' Go.Proofs.Try.func12 rfl Go.Proofs.Try.ntmps12 rfl ?_
  refine f_seq ?_
  refine f_region ?_
  refine scons (r_box (ob := 10003) rfl (Sees.of rfl) rfl rfl rfl rfl rfl rfl) ?_
  refine scons (r_box (ob := 10004) rfl (Sees.of rfl) rfl rfl rfl rfl rfl rfl) ?_
  refine scons (CStep.step (PStep.c (p_assign (y := .val _) rfl (Sees.of rfl) rfl)) rfl rfl rfl rfl) ?_
  refine snil ?_
  refine f_seq ?_
  refine f_seq ?_
  refine f_region ?_
  refine scons (CStep.step (PStep.c (p_loadBS rfl wBet6_agg39 wBet6_siz39 (Sees.of rfl) rfl rfl rfl)) rfl rfl rfl rfl) ?_
  refine scons (CStep.step (PStep.c (p_loadBS rfl wBet6_agg39 wBet6_siz39 (Sees.of rfl) rfl rfl rfl)) rfl rfl rfl rfl) ?_
  refine scons (CStep.step (c_call rfl wBet6_isf32 ⟨_, _, rfl, (Sees.of rfl), rfl, ⟨_, _, rfl, (Sees.of rfl), rfl, rfl⟩⟩ (wide_spec n a m b)) rfl rfl rfl rfl) ?_
  refine scons (CStep.step (PStep.c (p_move (y := .val _) rfl (Sees.of rfl) rfl)) rfl rfl rfl rfl) ?_
  refine scons (CStep.guard rfl rfl rfl (fun hg0 => PStep.c (p_move (y := .val _) rfl (Sees.of rfl) rfl)) rfl rfl rfl rfl rfl) ?_
  refine scons (CStep.guard rfl rfl rfl (fun hg0 => PStep.c (p_len rfl wBet6_isl63 (Sees.gv' rfl hg0))) rfl rfl rfl rfl rfl) ?_
  refine scons (CStep.guard rfl rfl rfl (fun hg0 => PStep.c (p_gtr rfl (Sees.gv' rfl hg0) (Sees.of rfl))) rfl rfl rfl rfl rfl) ?_
  refine scons (CStep.step (PStep.c (p_or rfl (Sees.of rfl) (Sees.of rfl) (fun h => Sees.gv' rfl (beq_of_eq h)))) rfl rfl rfl rfl) ?_
  refine snil ?_
  refine f_cond rfl ?_ ?_
  · intro hc1
    try simp only [bs] at hc1
    refine f_seq ?_
    refine f_region ?_
    refine scons (CStep.step (PStep.c (p_assign (y := .val _) rfl (Sees.of rfl) rfl)) rfl rfl rfl rfl) ?_
    refine snil ?_
    refine f_ret ?_
    refine ends_ret (res_eq (res1 rfl (res_tmp rfl (Sees.of rfl))) ?_)
    rfl
  · intro hc1
    try simp only [bs] at hc1
    refine f_skip ?_
    refine f_seq ?_
    refine f_region ?_
    refine scons (CStep.step (PStep.c (p_loadBS rfl wBet6_agg39 wBet6_siz39 (Sees.of rfl) rfl rfl rfl)) rfl rfl rfl rfl) ?_
    refine scons (CStep.step (PStep.c (p_loadBS rfl wBet6_agg39 wBet6_siz39 (Sees.of rfl) rfl rfl rfl)) rfl rfl rfl rfl) ?_
    refine scons (CStep.step (PStep.c (p_move (y := .val _) rfl (Sees.of rfl) rfl)) rfl rfl rfl rfl) ?_
    refine scons (CStep.step (c_call rfl wBet6_isf33 ⟨_, _, rfl, (Sees.of rfl), rfl, ⟨_, _, rfl, (Sees.of rfl), rfl, ⟨_, _, rfl, (Sees.of rfl), rfl, rfl⟩⟩⟩ (Take_spec n a m b l)) rfl rfl rfl rfl) ?_
    refine scons (CStep.step (PStep.c (p_move (y := .val _) rfl (Sees.of rfl) rfl)) rfl rfl rfl rfl) ?_
    refine scons (CStep.step (PStep.c (p_extract rfl (Sees.of rfl) rfl)) rfl rfl rfl rfl) ?_
    refine scons (CStep.step (PStep.c (p_extract rfl (Sees.of rfl) rfl)) rfl rfl rfl rfl) ?_
    refine scons (r_alloc (ob := 10007) rfl wBet6_zer67 rfl rfl rfl rfl rfl rfl) ?_
    refine scons (r_alloc (ob := 10008) rfl wBet6_zer26 rfl rfl rfl rfl rfl rfl) ?_
    refine scons (r_storeS rfl wBet6_siz67 rfl rfl rfl (Sees.of rfl) rfl (Sees.of rfl) rfl rfl rfl rfl) ?_
    refine scons (r_storeS rfl wBet6_siz26 rfl rfl rfl (Sees.of rfl) rfl (Sees.of rfl) rfl rfl rfl rfl) ?_
    refine snil ?_
    refine f_seq ?_
    refine f_region ?_
    refine scons (CStep.step (PStep.c (p_loadBS rfl wBet6_agg39 wBet6_siz39 (Sees.of rfl) rfl rfl rfl)) rfl rfl rfl rfl) ?_
    refine scons (CStep.step (PStep.c (p_loadBS rfl wBet6_agg39 wBet6_siz39 (Sees.of rfl) rfl rfl rfl)) rfl rfl rfl rfl) ?_
    refine scons (CStep.step (PStep.c (p_move (y := .val _) rfl (Sees.of rfl) rfl)) rfl rfl rfl rfl) ?_
    refine scons (CStep.step (c_call rfl wBet6_isf39 ⟨_, _, rfl, (Sees.of rfl), rfl, ⟨_, _, rfl, (Sees.of rfl), rfl, ⟨_, _, rfl, (Sees.of rfl), rfl, rfl⟩⟩⟩ (Even_spec n a m b l)) rfl rfl rfl rfl) ?_
    refine scons (CStep.step (PStep.c (p_move (y := .val _) rfl (Sees.of rfl) rfl)) rfl rfl rfl rfl) ?_
    refine scons (CStep.step (PStep.c (p_extract rfl (Sees.of rfl) rfl)) rfl rfl rfl rfl) ?_
    refine scons (CStep.step (PStep.c (p_extract rfl (Sees.of rfl) rfl)) rfl rfl rfl rfl) ?_
    refine scons (r_alloc (ob := 10009) rfl wBet6_zer67 rfl rfl rfl rfl rfl rfl) ?_
    refine scons (r_alloc (ob := 10010) rfl wBet6_zer26 rfl rfl rfl rfl rfl rfl) ?_
    refine scons (r_storeS rfl wBet6_siz67 rfl rfl rfl (Sees.of rfl) rfl (Sees.of rfl) rfl rfl rfl rfl) ?_
    refine scons (r_storeS rfl wBet6_siz26 rfl rfl rfl (Sees.of rfl) rfl (Sees.of rfl) rfl rfl rfl rfl) ?_
    refine snil ?_
    refine f_seq ?_
    refine f_seq ?_
    refine f_region ?_
    refine scons (CStep.step (c_call rfl wBet6_isf36 rfl (betweenSure_spec)) rfl rfl rfl rfl) ?_
    refine scons (CStep.step (PStep.c (p_not rfl (Sees.of rfl))) rfl rfl rfl rfl) ?_
    refine snil ?_
    refine f_cond rfl ?_ ?_
    · intro hc2
      try simp only [bs] at hc2
      exact absurd hc2 (by decide)
    · intro hc2
      try simp only [bs] at hc2
      refine f_skip ?_
      refine f_seq ?_
      refine f_seq ?_
      refine f_region ?_
      refine scons (CStep.step (PStep.c (p_fieldRef rfl wBet6_fld26_0 wBet6_siz3 rfl (Sees.of rfl) rfl)) rfl rfl rfl rfl) ?_
      refine scons (CStep.step (PStep.c (p_loadB (y := .val _) rfl wBet6_agg3 (Sees.of rfl) rfl rfl rfl rfl)) rfl rfl rfl rfl) ?_
      refine scons (CStep.step (PStep.c (p_neq rfl (Sees.of rfl) (Sees.of rfl))) rfl rfl rfl rfl) ?_
      refine scons (CStep.step (PStep.c (p_move (y := .val _) rfl (Sees.of rfl) rfl)) rfl rfl rfl rfl) ?_
      refine scons (CStep.guard rfl rfl rfl (fun hg0 => PStep.c (p_fieldRef rfl wBet6_fld26_0 wBet6_siz3 rfl (Sees.of rfl) rfl)) rfl rfl rfl rfl rfl) ?_
      refine scons (CStep.guard rfl rfl rfl (fun hg0 => PStep.c (p_loadB (y := .val _) rfl wBet6_agg3 (Sees.gv' rfl hg0) rfl rfl rfl rfl)) rfl rfl rfl rfl rfl) ?_
      refine scons (CStep.guard rfl rfl rfl (fun hg0 => PStep.c (p_neq rfl (Sees.gv' rfl hg0) (Sees.of rfl))) rfl rfl rfl rfl rfl) ?_
      refine scons (CStep.step (PStep.c (p_or rfl (Sees.of rfl) (Sees.of rfl) (fun h => Sees.gv' rfl (beq_of_eq h)))) rfl rfl rfl rfl) ?_
      refine snil ?_
      refine f_cond rfl ?_ ?_
      · intro hc3
        try simp only [bs] at hc3
        have hbad := Sp.tak_code (n := n) (by omega) hc3
        refine f_seq ?_
        refine f_region ?_
        refine scons (CStep.step (PStep.c (p_loadBS rfl wBet6_agg26 wBet6_siz26 (Sees.of rfl) rfl rfl rfl)) rfl rfl rfl rfl) ?_
        refine scons (CStep.step (PStep.c (p_loadBS rfl wBet6_agg26 wBet6_siz26 (Sees.of rfl) rfl rfl rfl)) rfl rfl rfl rfl) ?_
        refine scons (CStep.step (PStep.c (p_eqlS2 rfl wBet6_eq226 (Sees.of rfl) (Sees.of rfl))) rfl rfl rfl rfl) ?_
        refine scons (CStep.step (PStep.c (p_move (y := .val _) rfl (Sees.of rfl) rfl)) rfl rfl rfl rfl) ?_
        refine scons (CStep.guard rfl rfl rfl (fun hg0 => PStep.c (p_loadBS rfl wBet6_agg67 wBet6_siz67 (Sees.of rfl) rfl rfl rfl)) rfl rfl rfl rfl rfl) ?_
        refine scons (CStep.guard rfl rfl rfl (fun hg0 => c_call rfl wBet6_isf35 ⟨_, _, rfl, (Sees.gv' rfl hg0), rfl, rfl⟩ (DiaNone_spec _ _)) rfl rfl rfl rfl rfl) ?_
        refine scons (CStep.step (PStep.c (p_and rfl (Sees.of rfl) (fun h => Sees.gv' rfl (beq_of_eq h)) (Sees.of rfl))) rfl rfl rfl rfl) ?_
        refine scons (CStep.step (PStep.c (p_move (y := .val _) rfl (Sees.of rfl) rfl)) rfl rfl rfl rfl) ?_
        refine scons (CStep.guard rfl rfl rfl (fun hg0 => PStep.c (p_loadBS rfl wBet6_agg67 wBet6_siz67 (Sees.of rfl) rfl rfl rfl)) rfl rfl rfl rfl rfl) ?_
        refine scons (CStep.guard rfl rfl rfl (fun hg0 => c_call rfl wBet6_isf35 ⟨_, _, rfl, (Sees.gv' rfl hg0), rfl, rfl⟩ (DiaNone_spec _ _)) rfl rfl rfl rfl rfl) ?_
        refine scons (CStep.step (PStep.c (p_and rfl (Sees.of rfl) (fun h => Sees.gv' rfl (beq_of_eq h)) (Sees.of rfl))) rfl rfl rfl rfl) ?_
        refine scons (CStep.step (PStep.c (p_assign (y := .val _) rfl (Sees.of rfl) rfl)) rfl rfl rfl rfl) ?_
        refine snil ?_
        refine f_ret ?_
        refine ends_ret (res_eq (res1 rfl (res_tmp rfl (Sees.of rfl))) ?_)
        rw [Sp.tak_bad hbad, Sp.tak_bad hbad]
        simp
      · intro hc3
        try simp only [bs] at hc3
        have hgo := Sp.tak_fine hc3.1
        obtain ⟨k, rfl, rfl, hpf⟩ := Sp.prf_of hgo
        have hk8 : k ≤ 8 := by omega
        have hF := Sp.tak_all hgo hpf hk8 false
        have hT := Sp.tak_all hgo hpf hk8 true
        have hga := (Sp.check_use hpf.ca).1
        have hgb := (Sp.check_use hpf.cb).1
        have hp16 := Sp.pow16 (n := k) (by omega)
        have hpw := Sp.pow_ok (m := k) (by omega)
        have hpi := Sp.pow_int k
        have hfl := hF.len
        have htl := hT.len
        refine f_skip ?_
        refine f_seq ?_
        refine f_seq ?_
        refine f_region ?_
        refine scons (CStep.step (PStep.c (p_fieldRef rfl wBet6_fld39_0 wBet6_siz3 rfl (Sees.of rfl) rfl)) rfl rfl rfl rfl) ?_
        refine scons (CStep.step (PStep.c (p_loadB (y := .val _) rfl wBet6_agg3 (Sees.of rfl) rfl rfl rfl rfl)) rfl rfl rfl rfl) ?_
        refine scons (CStep.step (PStep.c (p_lss rfl (Sees.of rfl) (Sees.of rfl))) rfl rfl rfl rfl) ?_
        refine scons (CStep.step (PStep.c (p_move (y := .val _) rfl (Sees.of rfl) rfl)) rfl rfl rfl rfl) ?_
        refine scons (CStep.guard rfl rfl rfl (fun hg0 => PStep.c (p_fieldRef rfl wBet6_fld39_0 wBet6_siz3 rfl (Sees.of rfl) rfl)) rfl rfl rfl rfl rfl) ?_
        refine scons (CStep.guard rfl rfl rfl (fun hg0 => PStep.c (p_loadB (y := .val _) rfl wBet6_agg3 (Sees.gv' rfl hg0) rfl rfl rfl rfl)) rfl rfl rfl rfl rfl) ?_
        refine scons (CStep.guard rfl rfl rfl (fun hg0 => PStep.c (p_loadBS rfl wBet6_agg67 wBet6_siz67 (Sees.of rfl) rfl rfl rfl)) rfl rfl rfl rfl rfl) ?_
        refine scons (CStep.guard rfl rfl rfl (fun hg0 => c_call rfl wBet6_isf40 ⟨_, _, rfl, (Sees.gv' rfl hg0), rfl, ⟨_, _, rfl, (Sees.gv' rfl hg0), rfl, rfl⟩⟩ (diaCheckR_spec k (Sp.takO false k a k b l).1 (Sp.takO false k a k b l).2.1)) rfl rfl rfl rfl rfl) ?_
        refine scons (CStep.guard rfl rfl rfl (fun hg0 => PStep.c (p_field rfl wBet6_fld26_0 wBet6_agg3 (Sees.gv' rfl hg0) rfl)) rfl rfl rfl rfl rfl) ?_
        refine scons (CStep.guard rfl rfl rfl (fun hg0 => PStep.c (p_neq rfl (Sees.gv' rfl hg0) (Sees.of rfl))) rfl rfl rfl rfl rfl) ?_
        refine scons (CStep.step (PStep.c (p_or rfl (Sees.of rfl) (Sees.of rfl) (fun h => Sees.gv' rfl (beq_of_eq h)))) rfl rfl rfl rfl) ?_
        refine scons (CStep.step (PStep.c (p_move (y := .val _) rfl (Sees.of rfl) rfl)) rfl rfl rfl rfl) ?_
        refine scons (CStep.guard rfl rfl rfl (fun hg0 => PStep.c (p_fieldRef rfl wBet6_fld39_0 wBet6_siz3 rfl (Sees.of rfl) rfl)) rfl rfl rfl rfl rfl) ?_
        refine scons (CStep.guard rfl rfl rfl (fun hg0 => PStep.c (p_loadB (y := .val _) rfl wBet6_agg3 (Sees.gv' rfl hg0) rfl rfl rfl rfl)) rfl rfl rfl rfl rfl) ?_
        refine scons (CStep.guard rfl rfl rfl (fun hg0 => PStep.c (p_loadBS rfl wBet6_agg67 wBet6_siz67 (Sees.of rfl) rfl rfl rfl)) rfl rfl rfl rfl rfl) ?_
        refine scons (CStep.guard rfl rfl rfl (fun hg0 => c_call rfl wBet6_isf40 ⟨_, _, rfl, (Sees.gv' rfl hg0), rfl, ⟨_, _, rfl, (Sees.gv' rfl hg0), rfl, rfl⟩⟩ (diaCheckR_spec k (Sp.takO true k a k b l).1 (Sp.takO true k a k b l).2.1)) rfl rfl rfl rfl rfl) ?_
        refine scons (CStep.guard rfl rfl rfl (fun hg0 => PStep.c (p_field rfl wBet6_fld26_0 wBet6_agg3 (Sees.gv' rfl hg0) rfl)) rfl rfl rfl rfl rfl) ?_
        refine scons (CStep.guard rfl rfl rfl (fun hg0 => PStep.c (p_neq rfl (Sees.gv' rfl hg0) (Sees.of rfl))) rfl rfl rfl rfl rfl) ?_
        refine scons (CStep.step (PStep.c (p_or rfl (Sees.of rfl) (Sees.of rfl) (fun h => Sees.gv' rfl (beq_of_eq h)))) rfl rfl rfl rfl) ?_
        refine snil ?_
        refine f_cond rfl ?_ ?_
        · intro hc4
          try simp only [bs] at hc4
          exfalso
          have h1 := hF.ok
          have h2 := hT.ok
          omega
        · intro hc4
          try simp only [bs] at hc4
          refine f_skip ?_
          refine f_seq ?_
          refine f_seq ?_
          refine f_region ?_
          refine scons (CStep.step (PStep.c (p_assign (y := .val _) rfl (Sees.of rfl) rfl)) rfl rfl rfl rfl) ?_
          refine snil ?_
          refine f_block ?_
          refine f_loop (α := Nat) (fun i => i ≤ 2 ^ k) (fun i => [(11, iv i), (3, .ref 10003 0 0), (10003, .box 0 (.ccons (iv k) (.ccons (.val (intss a)) .cnil))), (4, .ref 10004 0 0), (10004, .box 0 (.ccons (iv k) (.ccons (.val (intss b)) .cnil))), (7, .ref 10007 0 0), (10007, .box 0 (.ccons (.val (chos (Sp.takO false k a k b l).1)) (.ccons (iv (Sp.takO false k a k b l).2.1) .cnil))), (9, .ref 10009 0 0), (10009, .box 0 (.ccons (.val (chos (Sp.takO true k a k b l).1)) (.ccons (iv (Sp.takO true k a k b l).2.1) .cnil)))]) (fun i => 2 ^ k - i) 0 ?_ ?_ ?_
          · exact Nat.zero_le _
          · exact le_ofL ⟨rfl, rfl, rfl, rfl, rfl, rfl, rfl, rfl, rfl, trivial⟩ rfl
          · rintro i hi
            have hi : i ≤ 2 ^ k := hi
            refine f_seq ?_
            refine f_seq ?_
            refine f_region ?_
            refine scons (CStep.step (PStep.c (p_move (y := .val _) rfl (Sees.of rfl) rfl)) rfl rfl rfl rfl) ?_
            refine scons (CStep.step (PStep.c (p_fieldRef rfl wBet6_fld39_0 wBet6_siz3 rfl (Sees.of rfl) rfl)) rfl rfl rfl rfl) ?_
            refine scons (CStep.step (PStep.c (p_loadB (y := .val _) rfl wBet6_agg3 (Sees.of rfl) rfl rfl rfl rfl)) rfl rfl rfl rfl) ?_
            refine scons (CStep.step (PStep.c (p_convU rfl wBet6_int3 wBet6_int30 (Sees.of rfl) (by omega))) rfl rfl rfl rfl) ?_
            refine scons (CStep.step (PStep.c (p_shl rfl (Sees.of rfl) (Sees.of rfl) (by omega) (by omega) (by first | omega | assumption))) rfl rfl rfl rfl) ?_
            refine scons (CStep.step (PStep.c (p_lss rfl (Sees.of rfl) (Sees.of rfl))) rfl rfl rfl rfl) ?_
            refine snil ?_
            refine f_cond rfl ?_ ?_
            · intro hc5
              try simp only [bs] at hc5
              refine f_skip ?_
              refine f_seq ?_
              refine f_block ?_
              refine f_seq ?_
              refine f_region ?_
              refine scons (CStep.step (PStep.c (p_fieldRef rfl wBet6_fld39_0 wBet6_siz3 rfl (Sees.of rfl) rfl)) rfl rfl rfl rfl) ?_
              refine scons (CStep.step (PStep.c (p_loadB (y := .val _) rfl wBet6_agg3 (Sees.of rfl) rfl rfl rfl rfl)) rfl rfl rfl rfl) ?_
              refine scons (CStep.step (PStep.c (p_move (y := .val _) rfl (Sees.of rfl) rfl)) rfl rfl rfl rfl) ?_
              refine scons (CStep.step (c_call rfl wBet6_isf17 ⟨_, _, rfl, (Sees.of rfl), rfl, ⟨_, _, rfl, (Sees.of rfl), rfl, rfl⟩⟩ ((bits_spec k i (by omega)).spec false)) rfl rfl rfl rfl) ?_
              refine scons (CStep.step (PStep.c (p_assign (y := .val _) rfl (Sees.of rfl) rfl)) rfl rfl rfl rfl) ?_
              refine snil ?_
              refine f_seq ?_
              refine f_region ?_
              refine scons (CStep.step (PStep.c (p_loadBS rfl wBet6_agg67 wBet6_siz67 (Sees.of rfl) rfl rfl rfl)) rfl rfl rfl rfl) ?_
              refine scons (CStep.step (PStep.c (p_move (y := .val _) rfl (Sees.of rfl) rfl)) rfl rfl rfl rfl) ?_
              refine scons (CStep.step (c_call rfl wBet6_isf41 ⟨_, _, rfl, (Sees.of rfl), rfl, ⟨_, _, rfl, (Sees.of rfl), rfl, rfl⟩⟩ (valueR_spec k (Sp.takO false k a k b l).1 (Sp.takO false k a k b l).2.1 (Sp.bits k i) hF.ok (by rw [Sp.bits_length]))) rfl rfl rfl rfl) ?_
              refine scons (CStep.step (PStep.c (p_assign (y := .val _) rfl (Sees.of rfl) rfl)) rfl rfl rfl rfl) ?_
              refine snil ?_
              refine f_seq ?_
              refine f_region ?_
              refine scons (CStep.step (PStep.c (p_loadBS rfl wBet6_agg67 wBet6_siz67 (Sees.of rfl) rfl rfl rfl)) rfl rfl rfl rfl) ?_
              refine scons (CStep.step (PStep.c (p_move (y := .val _) rfl (Sees.of rfl) rfl)) rfl rfl rfl rfl) ?_
              refine scons (CStep.step (c_call rfl wBet6_isf41 ⟨_, _, rfl, (Sees.of rfl), rfl, ⟨_, _, rfl, (Sees.of rfl), rfl, rfl⟩⟩ (valueR_spec k (Sp.takO true k a k b l).1 (Sp.takO true k a k b l).2.1 (Sp.bits k i) hT.ok (by rw [Sp.bits_length]))) rfl rfl rfl rfl) ?_
              refine scons (CStep.step (PStep.c (p_assign (y := .val _) rfl (Sees.of rfl) rfl)) rfl rfl rfl rfl) ?_
              refine snil ?_
              refine f_seq ?_
              refine f_region ?_
              refine scons (CStep.step (PStep.c (p_fieldRef rfl wBet6_fld39_1 wBet6_siz37 rfl (Sees.of rfl) rfl)) rfl rfl rfl rfl) ?_
              refine scons (CStep.step (PStep.c (p_loadB (y := .val _) rfl wBet6_agg37 (Sees.of rfl) rfl rfl rfl rfl)) rfl rfl rfl rfl) ?_
              refine scons (CStep.step (PStep.c (p_move (y := .val _) rfl (Sees.of rfl) rfl)) rfl rfl rfl rfl) ?_
              refine scons (CStep.step (c_call rfl wBet6_isf42 ⟨_, _, rfl, (Sees.of rfl), rfl, ⟨_, _, rfl, (Sees.of rfl), rfl, rfl⟩⟩ (all_spec (Sp.bits k i) a (by rw [Sp.bits_length]; exact hga))) rfl rfl rfl rfl) ?_
              refine scons (CStep.step (PStep.c (p_move (y := .val _) rfl (Sees.of rfl) rfl)) rfl rfl rfl rfl) ?_
              refine scons (CStep.guard rfl rfl rfl (fun hg0 => PStep.c (p_move (y := .val _) rfl (Sees.of rfl) rfl)) rfl rfl rfl rfl rfl) ?_
              refine scons (CStep.guard rfl rfl rfl (fun hg0 => PStep.c (p_not rfl (Sees.gv' rfl hg0))) rfl rfl rfl rfl rfl) ?_
              refine scons (CStep.guard rfl rfl rfl (fun hg0 => PStep.c (p_move (y := .val _) rfl (Sees.gv' rfl hg0) rfl)) rfl rfl rfl rfl rfl) ?_
              refine scons (CStep.guard2 rfl rfl rfl (fun hg1 hg0 => PStep.c (p_move (y := .val _) rfl (Sees.of rfl) rfl)) rfl rfl rfl rfl rfl) ?_
              refine scons (CStep.guard2 rfl rfl rfl (fun hg1 hg0 => PStep.c (p_not rfl (Sees.gv' rfl (and_true_of hg1 hg0)))) rfl rfl rfl rfl rfl) ?_
              refine scons (CStep.guard rfl rfl rfl (fun hg0 => PStep.c (p_or rfl (Sees.gv' rfl hg0) (Sees.of rfl) (fun h => Sees.gv' rfl (and_true_of hg0 (beq_of_eq h))))) rfl rfl rfl rfl rfl) ?_
              refine scons (CStep.step (PStep.c (p_and rfl (Sees.of rfl) (fun h => Sees.gv' rfl (beq_of_eq h)) (Sees.of rfl))) rfl rfl rfl rfl) ?_
              refine scons (CStep.step (PStep.c (p_move (y := .val _) rfl (Sees.of rfl) rfl)) rfl rfl rfl rfl) ?_
              refine scons (CStep.guard rfl rfl rfl (fun hg0 => PStep.c (p_fieldRef rfl wBet6_fld39_1 wBet6_siz37 rfl (Sees.of rfl) rfl)) rfl rfl rfl rfl rfl) ?_
              refine scons (CStep.guard rfl rfl rfl (fun hg0 => PStep.c (p_loadB (y := .val _) rfl wBet6_agg37 (Sees.gv' rfl hg0) rfl rfl rfl rfl)) rfl rfl rfl rfl rfl) ?_
              refine scons (CStep.guard rfl rfl rfl (fun hg0 => PStep.c (p_move (y := .val _) rfl (Sees.of rfl) rfl)) rfl rfl rfl rfl rfl) ?_
              refine scons (CStep.guard rfl rfl rfl (fun hg0 => c_call rfl wBet6_isf42 ⟨_, _, rfl, (Sees.gv' rfl hg0), rfl, ⟨_, _, rfl, (Sees.gv' rfl hg0), rfl, rfl⟩⟩ (all_spec (Sp.bits k i) b (by rw [Sp.bits_length]; exact hgb))) rfl rfl rfl rfl rfl) ?_
              refine scons (CStep.guard rfl rfl rfl (fun hg0 => PStep.c (p_move (y := .val _) rfl (Sees.gv' rfl hg0) rfl)) rfl rfl rfl rfl rfl) ?_
              refine scons (CStep.guard2 rfl rfl rfl (fun hg1 hg0 => PStep.c (p_move (y := .val _) rfl (Sees.of rfl) rfl)) rfl rfl rfl rfl rfl) ?_
              refine scons (CStep.guard2 rfl rfl rfl (fun hg1 hg0 => PStep.c (p_move (y := .val _) rfl (Sees.gv' rfl (and_true_of hg1 hg0)) rfl)) rfl rfl rfl rfl rfl) ?_
              refine scons (CStep.guard2 rfl rfl rfl (fun hg1 hg0 => PStep.c (p_move (y := .val _) rfl (Sees.of rfl) rfl)) rfl rfl rfl rfl rfl) ?_
              refine scons (CStep.guard2 rfl rfl rfl (fun hg1 hg0 => PStep.c (p_or rfl (Sees.gv' rfl (and_true_of hg1 hg0)) (Sees.of rfl) (fun h => Sees.gv' rfl (and_true_of (and_true_of hg1 hg0) (beq_of_eq h))))) rfl rfl rfl rfl rfl) ?_
              refine scons (CStep.guard rfl rfl rfl (fun hg0 => PStep.c (p_and rfl (Sees.gv' rfl hg0) (fun h => Sees.gv' rfl (and_true_of hg0 (beq_of_eq h))) (Sees.of rfl))) rfl rfl rfl rfl rfl) ?_
              refine scons (CStep.step (PStep.c (p_or rfl (Sees.of rfl) (Sees.of rfl) (fun h => Sees.gv' rfl (beq_of_eq h)))) rfl rfl rfl rfl) ?_
              refine snil ?_
              refine f_cond rfl ?_ ?_
              · intro hc6
                try simp only [bs] at hc6
                exfalso
                rw [hF.val i (by omega), hT.val i (by omega)] at hc6
                have g1 := fun h => Sp.stand_a hpf false (x := (Sp.bits k i)) h
                have g2 := fun h => Sp.stand_a hpf true (x := (Sp.bits k i)) h
                have g3 := fun h => Sp.stand_b hpf false (x := (Sp.bits k i)) h
                have g4 := fun h => Sp.stand_b hpf true (x := (Sp.bits k i)) h
                rcases hc6 with ⟨h1, h2⟩ | ⟨h1, h2⟩
                · rw [g1 h1, g2 h1] at h2
                  simp at h2
                · rw [g3 h1, g4 h1] at h2
                  simp at h2
              · intro hc6
                try simp only [bs] at hc6
                refine f_skip ?_
                refine f_nil ?_
                show AWs _ _ _ _ _
                refine f_region ?_
                refine scons (CStep.step (PStep.c (p_move (y := .val _) rfl (Sees.of rfl) rfl)) rfl rfl rfl rfl) ?_
                refine scons (CStep.step (PStep.c (p_add rfl (Sees.of rfl) (Sees.of rfl) (by omega))) rfl rfl rfl rfl) ?_
                refine scons (CStep.step (PStep.c (p_assign (y := .val _) rfl (Sees.of rfl) rfl)) rfl rfl rfl rfl) ?_
                refine snil ?_
                refine f_back ⟨i + 1, ?_, ?_, le_ofL ⟨rfl, rfl, rfl, rfl, rfl, rfl, rfl, rfl, rfl, trivial⟩ rfl⟩
                · omega
                · omega
            · intro hc5
              try simp only [bs] at hc5
              refine f_exit ?_
              show AWs _ _ _ _ _
              refine f_seq ?_
              refine f_seq ?_
              refine f_region ?_
              refine scons (CStep.step (PStep.c (p_assign (y := .val _) rfl (Sees.of rfl) rfl)) rfl rfl rfl rfl) ?_
              refine snil ?_
              refine f_block ?_
              refine f_loop (α := Nat) (fun i => i ≤ (Sp.takO false k a k b l).1.length + (Sp.takO true k a k b l).1.length) (fun i => [(15, iv i), (3, .ref 10003 0 0), (10003, .box 0 (.ccons (iv k) (.ccons (.val (intss a)) .cnil))), (4, .ref 10004 0 0), (10004, .box 0 (.ccons (iv k) (.ccons (.val (intss b)) .cnil))), (7, .ref 10007 0 0), (10007, .box 0 (.ccons (.val (chos (Sp.takO false k a k b l).1)) (.ccons (iv (Sp.takO false k a k b l).2.1) .cnil))), (9, .ref 10009 0 0), (10009, .box 0 (.ccons (.val (chos (Sp.takO true k a k b l).1)) (.ccons (iv (Sp.takO true k a k b l).2.1) .cnil)))]) (fun i => (Sp.takO false k a k b l).1.length + (Sp.takO true k a k b l).1.length - i) 0 ?_ ?_ ?_
              · exact Nat.zero_le _
              · exact le_ofL ⟨rfl, rfl, rfl, rfl, rfl, rfl, rfl, rfl, rfl, trivial⟩ rfl
              · rintro i hi
                have hi : i ≤ (Sp.takO false k a k b l).1.length + (Sp.takO true k a k b l).1.length := hi
                refine f_seq ?_
                refine f_seq ?_
                refine f_region ?_
                refine scons (CStep.step (PStep.c (p_move (y := .val _) rfl (Sees.of rfl) rfl)) rfl rfl rfl rfl) ?_
                refine scons (CStep.step (PStep.c (p_fieldRef rfl wBet6_fld67_0 wBet6_siz65 rfl (Sees.of rfl) rfl)) rfl rfl rfl rfl) ?_
                refine scons (CStep.step (PStep.c (p_loadB (y := .val _) rfl wBet6_agg65 (Sees.of rfl) rfl rfl rfl rfl)) rfl rfl rfl rfl) ?_
                refine scons (CStep.step (PStep.c (p_len rfl wBet6_isl65 (Sees.of rfl))) rfl rfl rfl rfl) ?_
                refine scons (CStep.step (PStep.c (p_fieldRef rfl wBet6_fld67_0 wBet6_siz65 rfl (Sees.of rfl) rfl)) rfl rfl rfl rfl) ?_
                refine scons (CStep.step (PStep.c (p_loadB (y := .val _) rfl wBet6_agg65 (Sees.of rfl) rfl rfl rfl rfl)) rfl rfl rfl rfl) ?_
                refine scons (CStep.step (PStep.c (p_len rfl wBet6_isl65 (Sees.of rfl))) rfl rfl rfl rfl) ?_
                refine scons (CStep.step (PStep.c (p_add rfl (Sees.of rfl) (Sees.of rfl) (by omega))) rfl rfl rfl rfl) ?_
                refine scons (CStep.step (PStep.c (p_lss rfl (Sees.of rfl) (Sees.of rfl))) rfl rfl rfl rfl) ?_
                refine snil ?_
                refine f_cond rfl ?_ ?_
                · intro hc7
                  try simp only [bs] at hc7
                  refine f_skip ?_
                  refine f_seq ?_
                  refine f_block ?_
                  refine f_seq ?_
                  refine f_region ?_
                  refine scons (CStep.step (PStep.c (p_assign (y := .val _) rfl (Sees.of rfl) rfl)) rfl rfl rfl rfl) ?_
                  refine snil ?_
                  refine f_seq ?_
                  refine f_seq ?_
                  refine f_region ?_
                  refine scons (CStep.step (PStep.c (p_move (y := .val _) rfl (Sees.of rfl) rfl)) rfl rfl rfl rfl) ?_
                  refine scons (CStep.step (PStep.c (p_fieldRef rfl wBet6_fld67_0 wBet6_siz65 rfl (Sees.of rfl) rfl)) rfl rfl rfl rfl) ?_
                  refine scons (CStep.step (PStep.c (p_loadB (y := .val _) rfl wBet6_agg65 (Sees.of rfl) rfl rfl rfl rfl)) rfl rfl rfl rfl) ?_
                  refine scons (CStep.step (PStep.c (p_len rfl wBet6_isl65 (Sees.of rfl))) rfl rfl rfl rfl) ?_
                  refine scons (CStep.step (PStep.c (p_lss rfl (Sees.of rfl) (Sees.of rfl))) rfl rfl rfl rfl) ?_
                  refine snil ?_
                  refine f_cond rfl ?_ ?_
                  · intro hc8
                    try simp only [bs] at hc8
                    have hrv := hF.rng _ (Sp.getD_mem (Sp.takO false k a k b l).1 i (0, 0, 0) (by omega))
                    have hcv := hF.com _ (Sp.getD_mem (Sp.takO false k a k b l).1 i (0, 0, 0) (by omega))
                    refine f_region ?_
                    refine scons (CStep.step (PStep.c (p_fieldRef rfl wBet6_fld67_0 wBet6_siz65 rfl (Sees.of rfl) rfl)) rfl rfl rfl rfl) ?_
                    refine scons (CStep.step (PStep.c (p_loadB (y := .val _) rfl wBet6_agg65 (Sees.of rfl) rfl rfl rfl rfl)) rfl rfl rfl rfl) ?_
                    refine scons (CStep.step (PStep.c (p_move (y := .val _) rfl (Sees.of rfl) rfl)) rfl rfl rfl rfl) ?_
                    refine scons (CStep.step (PStep.c ((by first | exact p_indexN rfl wBet6_isl65 wBet6_siz79 (Sees.of rfl) (Sees.of rfl) (by omega) | exact p_index rfl wBet6_isl65 wBet6_siz79 (Sees.of rfl) (Sees.of rfl) (by omega) (by omega)))) rfl rfl rfl rfl) ?_
                    refine scons (CStep.step (PStep.c (p_fieldAddr rfl wBet6_fld79_0 wBet6_siz3 (by decide) (Sees.of rfl) rfl rfl)) rfl rfl rfl rfl) ?_
                    refine scons (CStep.step (PStep.c (p_load rfl wBet6_agg3 (Sees.of rfl) rfl)) rfl rfl rfl rfl) ?_
                    refine scons (CStep.step (PStep.c (p_assign (y := .val _) rfl (Sees.of rfl) rfl)) rfl rfl rfl rfl) ?_
                    refine snil ?_
                    refine f_seq ?_
                    refine f_region ?_
                    refine scons (CStep.step (PStep.c (p_fieldRef rfl wBet6_fld39_1 wBet6_siz37 rfl (Sees.of rfl) rfl)) rfl rfl rfl rfl) ?_
                    refine scons (CStep.step (PStep.c (p_loadB (y := .val _) rfl wBet6_agg37 (Sees.of rfl) rfl rfl rfl rfl)) rfl rfl rfl rfl) ?_
                    refine scons (CStep.step (PStep.c (p_move (y := .val _) rfl (Sees.of rfl) rfl)) rfl rfl rfl rfl) ?_
                    refine scons (CStep.step (c_call rfl wBet6_isf43 ⟨_, _, rfl, (Sees.of rfl), rfl, ⟨_, _, rfl, (Sees.of rfl), rfl, rfl⟩⟩ (stands_spec a _ (by omega))) rfl rfl rfl rfl) ?_
                    refine scons (CStep.step (PStep.c (p_not rfl (Sees.of rfl))) rfl rfl rfl rfl) ?_
                    refine scons (CStep.step (PStep.c (p_move (y := .val _) rfl (Sees.of rfl) rfl)) rfl rfl rfl rfl) ?_
                    refine scons (CStep.guard rfl rfl rfl (fun hg0 => PStep.c (p_fieldRef rfl wBet6_fld39_1 wBet6_siz37 rfl (Sees.of rfl) rfl)) rfl rfl rfl rfl rfl) ?_
                    refine scons (CStep.guard rfl rfl rfl (fun hg0 => PStep.c (p_loadB (y := .val _) rfl wBet6_agg37 (Sees.gv' rfl hg0) rfl rfl rfl rfl)) rfl rfl rfl rfl rfl) ?_
                    refine scons (CStep.guard rfl rfl rfl (fun hg0 => PStep.c (p_move (y := .val _) rfl (Sees.of rfl) rfl)) rfl rfl rfl rfl rfl) ?_
                    refine scons (CStep.guard rfl rfl rfl (fun hg0 => by have hp0 := hg0; (try simp only [bs] at hp0); exact c_call rfl wBet6_isf43 ⟨_, _, rfl, (Sees.gv' rfl hg0), rfl, ⟨_, _, rfl, (Sees.gv' rfl hg0), rfl, rfl⟩⟩ (stands_spec b _ (by omega))) rfl rfl rfl rfl rfl) ?_
                    refine scons (CStep.guard rfl rfl rfl (fun hg0 => PStep.c (p_not rfl (Sees.gv' rfl hg0))) rfl rfl rfl rfl rfl) ?_
                    refine scons (CStep.step (PStep.c (p_or rfl (Sees.of rfl) (Sees.of rfl) (fun h => Sees.gv' rfl (beq_of_eq h)))) rfl rfl rfl rfl) ?_
                    refine snil ?_
                    refine f_cond rfl ?_ ?_
                    · intro hc9
                      try simp only [bs] at hc9
                      exfalso
                      rw [hcv.1, hcv.2] at hc9
                      simp at hc9
                    · intro hc9
                      try simp only [bs] at hc9
                      refine f_skip ?_
                      refine f_nil ?_
                      show AWs _ _ _ _ _
                      refine f_region ?_
                      refine scons (CStep.step (PStep.c (p_move (y := .val _) rfl (Sees.of rfl) rfl)) rfl rfl rfl rfl) ?_
                      refine scons (CStep.step (PStep.c (p_add rfl (Sees.of rfl) (Sees.of rfl) (by omega))) rfl rfl rfl rfl) ?_
                      refine scons (CStep.step (PStep.c (p_assign (y := .val _) rfl (Sees.of rfl) rfl)) rfl rfl rfl rfl) ?_
                      refine snil ?_
                      refine f_back ⟨i + 1, ?_, ?_, le_ofL ⟨rfl, rfl, rfl, rfl, rfl, rfl, rfl, rfl, rfl, trivial⟩ rfl⟩
                      · omega
                      · omega
                  · intro hc8
                    try simp only [bs] at hc8
                    have hrv := hT.rng _ (Sp.getD_mem (Sp.takO true k a k b l).1 ((i : Int) - (Sp.takO false k a k b l).1.length).toNat (0, 0, 0) (by omega))
                    have hcv := hT.com _ (Sp.getD_mem (Sp.takO true k a k b l).1 ((i : Int) - (Sp.takO false k a k b l).1.length).toNat (0, 0, 0) (by omega))
                    refine f_region ?_
                    refine scons (CStep.step (PStep.c (p_fieldRef rfl wBet6_fld67_0 wBet6_siz65 rfl (Sees.of rfl) rfl)) rfl rfl rfl rfl) ?_
                    refine scons (CStep.step (PStep.c (p_loadB (y := .val _) rfl wBet6_agg65 (Sees.of rfl) rfl rfl rfl rfl)) rfl rfl rfl rfl) ?_
                    refine scons (CStep.step (PStep.c (p_move (y := .val _) rfl (Sees.of rfl) rfl)) rfl rfl rfl rfl) ?_
                    refine scons (CStep.step (PStep.c (p_fieldRef rfl wBet6_fld67_0 wBet6_siz65 rfl (Sees.of rfl) rfl)) rfl rfl rfl rfl) ?_
                    refine scons (CStep.step (PStep.c (p_loadB (y := .val _) rfl wBet6_agg65 (Sees.of rfl) rfl rfl rfl rfl)) rfl rfl rfl rfl) ?_
                    refine scons (CStep.step (PStep.c (p_len rfl wBet6_isl65 (Sees.of rfl))) rfl rfl rfl rfl) ?_
                    refine scons (CStep.step (PStep.c (p_sub rfl (Sees.of rfl) (Sees.of rfl) (by omega))) rfl rfl rfl rfl) ?_
                    refine scons (CStep.step (PStep.c ((by first | exact p_indexN rfl wBet6_isl65 wBet6_siz79 (Sees.of rfl) (Sees.of rfl) (by omega) | exact p_index rfl wBet6_isl65 wBet6_siz79 (Sees.of rfl) (Sees.of rfl) (by omega) (by omega)))) rfl rfl rfl rfl) ?_
                    refine scons (CStep.step (PStep.c (p_fieldAddr rfl wBet6_fld79_0 wBet6_siz3 (by decide) (Sees.of rfl) rfl rfl)) rfl rfl rfl rfl) ?_
                    refine scons (CStep.step (PStep.c (p_load rfl wBet6_agg3 (Sees.of rfl) rfl)) rfl rfl rfl rfl) ?_
                    refine scons (CStep.step (PStep.c (p_assign (y := .val _) rfl (Sees.of rfl) rfl)) rfl rfl rfl rfl) ?_
                    refine snil ?_
                    refine f_seq ?_
                    refine f_region ?_
                    refine scons (CStep.step (PStep.c (p_fieldRef rfl wBet6_fld39_1 wBet6_siz37 rfl (Sees.of rfl) rfl)) rfl rfl rfl rfl) ?_
                    refine scons (CStep.step (PStep.c (p_loadB (y := .val _) rfl wBet6_agg37 (Sees.of rfl) rfl rfl rfl rfl)) rfl rfl rfl rfl) ?_
                    refine scons (CStep.step (PStep.c (p_move (y := .val _) rfl (Sees.of rfl) rfl)) rfl rfl rfl rfl) ?_
                    refine scons (CStep.step (c_call rfl wBet6_isf43 ⟨_, _, rfl, (Sees.of rfl), rfl, ⟨_, _, rfl, (Sees.of rfl), rfl, rfl⟩⟩ (stands_spec a _ (by omega))) rfl rfl rfl rfl) ?_
                    refine scons (CStep.step (PStep.c (p_not rfl (Sees.of rfl))) rfl rfl rfl rfl) ?_
                    refine scons (CStep.step (PStep.c (p_move (y := .val _) rfl (Sees.of rfl) rfl)) rfl rfl rfl rfl) ?_
                    refine scons (CStep.guard rfl rfl rfl (fun hg0 => PStep.c (p_fieldRef rfl wBet6_fld39_1 wBet6_siz37 rfl (Sees.of rfl) rfl)) rfl rfl rfl rfl rfl) ?_
                    refine scons (CStep.guard rfl rfl rfl (fun hg0 => PStep.c (p_loadB (y := .val _) rfl wBet6_agg37 (Sees.gv' rfl hg0) rfl rfl rfl rfl)) rfl rfl rfl rfl rfl) ?_
                    refine scons (CStep.guard rfl rfl rfl (fun hg0 => PStep.c (p_move (y := .val _) rfl (Sees.of rfl) rfl)) rfl rfl rfl rfl rfl) ?_
                    refine scons (CStep.guard rfl rfl rfl (fun hg0 => by have hp0 := hg0; (try simp only [bs] at hp0); exact c_call rfl wBet6_isf43 ⟨_, _, rfl, (Sees.gv' rfl hg0), rfl, ⟨_, _, rfl, (Sees.gv' rfl hg0), rfl, rfl⟩⟩ (stands_spec b _ (by omega))) rfl rfl rfl rfl rfl) ?_
                    refine scons (CStep.guard rfl rfl rfl (fun hg0 => PStep.c (p_not rfl (Sees.gv' rfl hg0))) rfl rfl rfl rfl rfl) ?_
                    refine scons (CStep.step (PStep.c (p_or rfl (Sees.of rfl) (Sees.of rfl) (fun h => Sees.gv' rfl (beq_of_eq h)))) rfl rfl rfl rfl) ?_
                    refine snil ?_
                    refine f_cond rfl ?_ ?_
                    · intro hc10
                      try simp only [bs] at hc10
                      exfalso
                      rw [hcv.1, hcv.2] at hc10
                      simp at hc10
                    · intro hc10
                      try simp only [bs] at hc10
                      refine f_skip ?_
                      refine f_nil ?_
                      show AWs _ _ _ _ _
                      refine f_region ?_
                      refine scons (CStep.step (PStep.c (p_move (y := .val _) rfl (Sees.of rfl) rfl)) rfl rfl rfl rfl) ?_
                      refine scons (CStep.step (PStep.c (p_add rfl (Sees.of rfl) (Sees.of rfl) (by omega))) rfl rfl rfl rfl) ?_
                      refine scons (CStep.step (PStep.c (p_assign (y := .val _) rfl (Sees.of rfl) rfl)) rfl rfl rfl rfl) ?_
                      refine snil ?_
                      refine f_back ⟨i + 1, ?_, ?_, le_ofL ⟨rfl, rfl, rfl, rfl, rfl, rfl, rfl, rfl, rfl, trivial⟩ rfl⟩
                      · omega
                      · omega
                · intro hc7
                  try simp only [bs] at hc7
                  refine f_exit ?_
                  show AWs _ _ _ _ _
                  refine f_seq ?_
                  refine f_region ?_
                  refine scons (CStep.step (PStep.c (p_assign (y := .val _) rfl (Sees.of rfl) rfl)) rfl rfl rfl rfl) ?_
                  refine snil ?_
                  refine f_ret ?_
                  refine ends_ret (res_eq (res1 rfl (res_tmp rfl (Sees.of rfl))) ?_)
                  rfl

end Go.Um
