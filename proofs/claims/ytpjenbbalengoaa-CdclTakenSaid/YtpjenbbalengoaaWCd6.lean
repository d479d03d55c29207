/- Walks of Go functions of this seat, each by its contract. No condition beyond what each theorem says. -/
import Derived.Test.YtpjenbbalengoaaWCd5
import Derived.Test.YtpjenbbalengoaaSq6
import Derived.Test.YtpjenbbalengoaaWSat
import Derived.Test.YtpjenbbalengoaaProg
import Derived.KernelRfl
set_option maxRecDepth 4000
namespace Go.Um
open Go Go.RowKit

theorem wCd6_agg3 : IsAgg Go.Proofs.Try.prog 3 false := by unfold IsAgg; kernel_rfl
theorem wCd6_agg37 : IsAgg Go.Proofs.Try.prog 37 false := by unfold IsAgg; kernel_rfl
theorem wCd6_agg39 : IsAgg Go.Proofs.Try.prog 39 true := by unfold IsAgg; kernel_rfl
theorem wCd6_agg41 : IsAgg Go.Proofs.Try.prog 41 true := by unfold IsAgg; kernel_rfl
theorem wCd6_boo4 : IsBool Go.Proofs.Try.prog 4 := by unfold IsBool; kernel_rfl
theorem wCd6_byt33 : Bytes Go.Proofs.Try.prog 33 24 := by unfold Bytes; kernel_rfl
theorem wCd6_fld26_0 : IsField Go.Proofs.Try.prog 26 0 0 3 := by unfold IsField; kernel_rfl
theorem wCd6_fld39_0 : IsField Go.Proofs.Try.prog 39 0 0 3 := by unfold IsField; kernel_rfl
theorem wCd6_fld39_1 : IsField Go.Proofs.Try.prog 39 1 1 37 := by unfold IsField; kernel_rfl
theorem wCd6_fld46_0 : IsField Go.Proofs.Try.prog 46 0 0 3 := by unfold IsField; kernel_rfl
theorem wCd6_int3 : IsInt Go.Proofs.Try.prog 3 .i64 := by unfold IsInt; kernel_rfl
theorem wCd6_int30 : IsInt Go.Proofs.Try.prog 30 .u64 := by unfold IsInt; kernel_rfl
theorem wCd6_isf17 : IsFn Go.Proofs.Try.prog 17 := by unfold IsFn; kernel_rfl
theorem wCd6_isf19 : IsFn Go.Proofs.Try.prog 19 := by unfold IsFn; kernel_rfl
theorem wCd6_isf20 : IsFn Go.Proofs.Try.prog 20 := by unfold IsFn; kernel_rfl
theorem wCd6_isf21 : IsFn Go.Proofs.Try.prog 21 := by unfold IsFn; kernel_rfl
theorem wCd6_isf23 : IsFn Go.Proofs.Try.prog 23 := by unfold IsFn; kernel_rfl
theorem wCd6_isf26 : IsFn Go.Proofs.Try.prog 26 := by unfold IsFn; kernel_rfl
theorem wCd6_isf42 : IsFn Go.Proofs.Try.prog 42 := by unfold IsFn; kernel_rfl
theorem wCd6_isl33 : IsSlice Go.Proofs.Try.prog 33 3 := by unfold IsSlice; kernel_rfl
theorem wCd6_isl37 : IsSlice Go.Proofs.Try.prog 37 33 := by unfold IsSlice; kernel_rfl
theorem wCd6_mix : (Go.Proofs.Try.prog).follows .mixedOrders = true := by kernel_rfl
theorem wCd6_siz26 : Size Go.Proofs.Try.prog 26 2 := by unfold Size; kernel_rfl
theorem wCd6_siz3 : Size Go.Proofs.Try.prog 3 1 := by unfold Size; kernel_rfl
theorem wCd6_siz33 : Size Go.Proofs.Try.prog 33 1 := by unfold Size; kernel_rfl
theorem wCd6_siz37 : Size Go.Proofs.Try.prog 37 1 := by unfold Size; kernel_rfl
theorem wCd6_siz39 : Size Go.Proofs.Try.prog 39 2 := by unfold Size; kernel_rfl
theorem wCd6_siz41 : Size Go.Proofs.Try.prog 41 4 := by unfold Size; kernel_rfl
theorem wCd6_siz46 : Size Go.Proofs.Try.prog 46 5 := by unfold Size; kernel_rfl
theorem wCd6_zer26 : Zero Go.Proofs.Try.prog 26 (.agg #[(.int .i64 0), (.int .i64 0)]) := by unfold Zero; kernel_rfl
theorem wCd6_zer33 : Zero Go.Proofs.Try.prog 33 (.slice none 0 0) := by unfold Zero; kernel_rfl
theorem wCd6_zer46 : Zero Go.Proofs.Try.prog 46 (.agg #[(.int .i64 0), (.slice none 0 0), (.slice none 0 0), (.slice none 0 0), (.int .i64 0)]) := by unfold Zero; kernel_rfl

theorem some_spec (m : Nat) (l : List (List Int)) (hm : m ≤ 16) (hG : ∀ x ∈ l, Sp.Good m x) :
    Spec Go.Proofs.Try.prog 26 [iv m, .val (intss l)] (di (Sp.someV m l)) := by
  refine spec_of' Go.Proofs.Try.func26 rfl Go.Proofs.Try.ntmps26 rfl ?_
  refine f_seq ?_
  have hp16 : 2 ^ m ≤ 65536 := Nat.pow_le_pow_right (n := 2) (by decide) hm
  have hpw := Sp.pow_ok (m := m) (by omega)
  have hpn := Sp.pow_nat m
  refine f_region ?_
  refine scons (CStep.step (PStep.c (p_assign (y := .val _) rfl (Sees.of rfl) rfl)) rfl rfl rfl rfl) ?_
  refine snil ?_
  refine f_seq ?_
  refine f_seq ?_
  refine f_region ?_
  refine scons (CStep.step (PStep.c (p_assign (y := .val _) rfl (Sees.of rfl) rfl)) rfl rfl rfl rfl) ?_
  refine snil ?_
  refine f_block ?_
  refine f_loop (α := Nat) (fun w => w ≤ 2 ^ m ∧ ∀ v, v < w → Sp.all (Sp.bits m v) l = false) (fun w => [(5, iv w), (0, iv m), (1, .val (intss l))]) (fun w => 2 ^ m - w) 0 ?_ ?_ ?_
  · exact ⟨Nat.zero_le _, fun v hv => absurd hv (Nat.not_lt_zero _)⟩
  · exact le_ofL ⟨rfl, rfl, rfl, trivial⟩ rfl
  · rintro w ⟨hw, hp⟩
    refine f_seq ?_
    refine f_seq ?_
    refine f_region ?_
    refine scons (CStep.step (PStep.c (p_move (y := .val _) rfl (Sees.of rfl) rfl)) rfl rfl rfl rfl) ?_
    refine scons (CStep.step (PStep.c (p_move (y := .val _) rfl (Sees.of rfl) rfl)) rfl rfl rfl rfl) ?_
    refine scons (CStep.step (PStep.c (p_convU rfl wCd6_int3 wCd6_int30 (Sees.of rfl) (by omega))) rfl rfl rfl rfl) ?_
    refine scons (CStep.step (PStep.c (p_shl rfl (Sees.of rfl) (Sees.of rfl) (by omega) (by omega) (by first | omega | assumption))) rfl rfl rfl rfl) ?_
    rw [hpn]
    refine scons (CStep.step (PStep.c (p_lss rfl (Sees.of rfl) (Sees.of rfl))) rfl rfl rfl rfl) ?_
    refine snil ?_
    refine f_cond rfl ?_ ?_
    · intro hc1
      try simp only [bs] at hc1
      refine f_skip ?_
      refine f_seq ?_
      refine f_block ?_
      refine f_seq ?_
      refine f_region ?_
      refine scons (CStep.step (PStep.c (p_move (y := .val _) rfl (Sees.of rfl) rfl)) rfl rfl rfl rfl) ?_
      refine scons (CStep.step (PStep.c (p_move (y := .val _) rfl (Sees.of rfl) rfl)) rfl rfl rfl rfl) ?_
      refine scons (CStep.step (PStep.c (p_move (y := .val _) rfl (Sees.of rfl) rfl)) rfl rfl rfl rfl) ?_
      refine scons (CStep.step (c_call rfl wCd6_isf17 ⟨_, _, rfl, (Sees.of rfl), rfl, ⟨_, _, rfl, (Sees.of rfl), rfl, rfl⟩⟩ ((bits_spec m w (by omega)).spec false)) rfl rfl rfl rfl) ?_
      refine scons (CStep.step (c_call rfl wCd6_isf42 ⟨_, _, rfl, (Sees.of rfl), rfl, ⟨_, _, rfl, (Sees.of rfl), rfl, rfl⟩⟩ (all_spec (Sp.bits m w) l (by rw [Sp.bits_length]; exact hG))) rfl rfl rfl rfl) ?_
      refine snil ?_
      refine f_cond rfl ?_ ?_
      · intro hc2
        try simp only [bs] at hc2
        refine f_seq ?_
        refine f_region ?_
        refine scons (CStep.step (PStep.c (p_move (y := .val _) rfl (Sees.of rfl) rfl)) rfl rfl rfl rfl) ?_
        refine scons (CStep.step (PStep.c (p_assign (y := .val _) rfl (Sees.of rfl) rfl)) rfl rfl rfl rfl) ?_
        refine snil ?_
        refine f_ret ?_
        refine ends_ret (res_eq (res1 rfl (res_tmp rfl (Sees.of rfl))) ?_)
        rw [Sp.someV_at (by omega) hp hc2]
      · intro hc2
        try simp only [bs] at hc2
        refine f_skip ?_
        refine f_nil ?_
        show AWs _ _ _ _ _
        refine f_region ?_
        refine scons (CStep.step (PStep.c (p_move (y := .val _) rfl (Sees.of rfl) rfl)) rfl rfl rfl rfl) ?_
        refine scons (CStep.step (PStep.c (p_add rfl (Sees.of rfl) (Sees.of rfl) (by omega))) rfl rfl rfl rfl) ?_
        refine scons (CStep.step (PStep.c (p_assign (y := .val _) rfl (Sees.of rfl) rfl)) rfl rfl rfl rfl) ?_
        refine snil ?_
        refine f_back ⟨w + 1, ?_, ?_, le_ofL ⟨rfl, rfl, rfl, trivial⟩ rfl⟩
        · refine ⟨by omega, fun v hv => ?_⟩
          by_cases e : v = w
          · rw [e]; exact hc2
          · exact hp v (by omega)
        · omega
    · intro hc1
      try simp only [bs] at hc1
      refine f_exit ?_
      show AWs _ _ _ _ _
      refine f_seq ?_
      refine f_region ?_
      refine scons (CStep.step (PStep.c (p_assign (y := .val _) rfl (Sees.of rfl) rfl)) rfl rfl rfl rfl) ?_
      refine snil ?_
      refine f_ret ?_
      refine ends_ret (res_eq (res1 rfl (res_tmp rfl (Sees.of rfl))) ?_)
      rw [Sp.someV_none (fun v hv => hp v (by omega))]

set_option maxHeartbeats 1000000 in
theorem CdclDecides_spec (n : Int) (ls : List (List Int)) (asked : List Int) (a b c d : Int) :
    Spec Go.Proofs.Try.prog 6 [.val (cnf n ls), .val (ints asked), .val (opts a b c d)] (D.bool true) := by
  refine spec_of' Go.Proofs.Try.func6 rfl Go.Proofs.Try.ntmps6 rfl ?_
  refine f_seq ?_
  refine f_region ?_
  refine scons (r_box (ob := 10003) rfl (Sees.of rfl) rfl rfl rfl rfl rfl rfl) ?_
  refine scons (r_box (ob := 10005) rfl (Sees.of rfl) rfl rfl rfl rfl rfl rfl) ?_
  refine scons (CStep.step (PStep.c (p_assign (y := .val _) rfl (Sees.of rfl) rfl)) rfl rfl rfl rfl) ?_
  refine snil ?_
  refine f_seq ?_
  refine f_seq ?_
  refine f_region ?_
  refine scons (CStep.step (PStep.c (p_loadBS rfl wCd6_agg39 wCd6_siz39 (Sees.of rfl) rfl rfl rfl)) rfl rfl rfl rfl) ?_
  refine scons (CStep.step (c_call rfl wCd6_isf23 ⟨_, _, rfl, (Sees.of rfl), rfl, rfl⟩ (heavy_spec n ls)) rfl rfl rfl rfl) ?_
  refine scons (CStep.step (PStep.c (p_move (y := .val _) rfl (Sees.of rfl) rfl)) rfl rfl rfl rfl) ?_
  refine scons (CStep.guard rfl rfl rfl (fun hg0 => PStep.c (p_loadBS rfl wCd6_agg39 wCd6_siz39 (Sees.of rfl) rfl rfl rfl)) rfl rfl rfl rfl rfl) ?_
  refine scons (CStep.guard rfl rfl rfl (fun hg0 => PStep.c (p_move (y := .val _) rfl (Sees.of rfl) rfl)) rfl rfl rfl rfl rfl) ?_
  refine scons (CStep.guard rfl rfl rfl (fun hg0 => PStep.c (p_loadBS rfl wCd6_agg41 wCd6_siz41 (Sees.of rfl) rfl rfl rfl)) rfl rfl rfl rfl rfl) ?_
  refine scons (CStep.guard rfl rfl rfl (fun hg0 => c_call rfl wCd6_isf19 ⟨_, _, rfl, (Sees.gv' rfl hg0), rfl, ⟨_, _, rfl, (Sees.gv' rfl hg0), rfl, ⟨_, _, rfl, (Sees.gv' rfl hg0), rfl, ⟨_, _, rfl, (Sees.of rfl), rfl, rfl⟩⟩⟩⟩ (cdclFault_spec n ls asked a b c d 0)) rfl rfl rfl rfl rfl) ?_
  refine scons (CStep.guard rfl rfl rfl (fun hg0 => PStep.c (p_field rfl wCd6_fld26_0 wCd6_agg3 (Sees.gv' rfl hg0) rfl)) rfl rfl rfl rfl rfl) ?_
  refine scons (CStep.guard rfl rfl rfl (fun hg0 => PStep.c (p_neq rfl (Sees.gv' rfl hg0) (Sees.of rfl))) rfl rfl rfl rfl rfl) ?_
  refine scons (CStep.step (PStep.c (p_or rfl (Sees.of rfl) (Sees.of rfl) (fun h => Sees.gv' rfl (beq_of_eq h)))) rfl rfl rfl rfl) ?_
  refine snil ?_
  refine f_cond rfl ?_ ?_
  · intro hc1
    try simp only [bs] at hc1
    refine f_seq ?_
    refine f_region ?_
    refine scons (CStep.step (PStep.c (p_assign (y := .val _) rfl (Sees.of rfl) rfl)) rfl rfl rfl rfl) ?_
    refine snil ?_
    refine f_ret ?_
    refine ends_ret (res_eq (res1 rfl (res_tmp rfl (Sees.of rfl))) ?_)
    rfl
  · intro hc1
    try simp only [bs] at hc1
    obtain ⟨m, rfl, hfit, hbe, hopt⟩ := Sp.cdF_ok hc1.2
    have hgo := Sp.doOf_go hbe (Sp.opt_more hopt (g := 2000) (by omega))
    have htwo := Sp.do_two (ph := decide (d = 1)) hfit (by omega) (by omega)
    have hal := Sp.nodup_good hfit.ca.1 hfit.ga
    refine f_skip ?_
    refine f_seq ?_
    refine f_region ?_
    refine scons (CStep.step (PStep.c (p_loadBS rfl wCd6_agg39 wCd6_siz39 (Sees.of rfl) rfl rfl rfl)) rfl rfl rfl rfl) ?_
    refine scons (CStep.step (PStep.c (p_move (y := .val _) rfl (Sees.of rfl) rfl)) rfl rfl rfl rfl) ?_
    refine scons (CStep.step (PStep.c (p_loadBS rfl wCd6_agg41 wCd6_siz41 (Sees.of rfl) rfl rfl rfl)) rfl rfl rfl rfl) ?_
    refine scons (CStep.step (c_call rfl wCd6_isf21 ⟨_, _, rfl, (Sees.of rfl), rfl, ⟨_, _, rfl, (Sees.of rfl), rfl, ⟨_, _, rfl, (Sees.of rfl), rfl, ⟨_, _, rfl, (Sees.of rfl), rfl, rfl⟩⟩⟩⟩ (Do_spec m ls asked a b c d 2000)) rfl rfl rfl rfl) ?_
    refine scons (CStep.step (PStep.c (p_move (y := .val _) rfl (Sees.of rfl) rfl)) rfl rfl rfl rfl) ?_
    refine scons (CStep.step (PStep.c (p_extract rfl (Sees.of rfl) rfl)) rfl rfl rfl rfl) ?_
    refine scons (CStep.step (PStep.c (p_extract rfl (Sees.of rfl) rfl)) rfl rfl rfl rfl) ?_
    refine scons (r_alloc (ob := 10007) rfl wCd6_zer46 rfl rfl rfl rfl rfl rfl) ?_
    refine scons (r_alloc (ob := 10008) rfl wCd6_zer26 rfl rfl rfl rfl rfl rfl) ?_
    refine scons (r_storeS rfl wCd6_siz46 rfl rfl rfl (Sees.of rfl) rfl (Sees.of rfl) rfl rfl rfl rfl) ?_
    refine scons (r_storeS rfl wCd6_siz26 rfl rfl rfl (Sees.of rfl) rfl (Sees.of rfl) rfl rfl rfl rfl) ?_
    refine snil ?_
    refine f_seq ?_
    refine f_seq ?_
    refine f_region ?_
    refine scons (CStep.step (PStep.c (p_fieldRef rfl wCd6_fld26_0 wCd6_siz3 rfl (Sees.of rfl) rfl)) rfl rfl rfl rfl) ?_
    refine scons (CStep.step (PStep.c (p_loadB (y := .val _) rfl wCd6_agg3 (Sees.of rfl) rfl rfl rfl rfl)) rfl rfl rfl rfl) ?_
    refine scons (CStep.step (PStep.c (p_neq rfl (Sees.of rfl) (Sees.of rfl))) rfl rfl rfl rfl) ?_
    refine scons (CStep.step (PStep.c (p_move (y := .val _) rfl (Sees.of rfl) rfl)) rfl rfl rfl rfl) ?_
    refine scons (CStep.guard rfl rfl rfl (fun hg0 => c_call rfl wCd6_isf20 rfl (sure_spec)) rfl rfl rfl rfl rfl) ?_
    refine scons (CStep.guard rfl rfl rfl (fun hg0 => PStep.c (p_not rfl (Sees.gv' rfl hg0))) rfl rfl rfl rfl rfl) ?_
    refine scons (CStep.step (PStep.c (p_or rfl (Sees.of rfl) (Sees.of rfl) (fun h => Sees.gv' rfl (beq_of_eq h)))) rfl rfl rfl rfl) ?_
    refine snil ?_
    refine f_cond rfl ?_ ?_
    · intro hc2
      try simp only [bs] at hc2
      exfalso
      rw [hgo] at hc2
      simp at hc2
    · intro hc2
      try simp only [bs] at hc2
      refine f_skip ?_
      refine f_seq ?_
      refine f_region ?_
      refine scons (r_buildRow (f := ints) (za := []) (xs := []) (by_ := 24) (ob := 30000) rfl rfl wCd6_isl37 wCd6_siz33 wCd6_zer33 rfl rfl (by decide) rfl rfl rfl rfl rfl rfl) ?_
      refine scons (CStep.step (PStep.c (p_fieldRef rfl wCd6_fld39_1 wCd6_siz37 rfl (Sees.of rfl) rfl)) rfl rfl rfl rfl) ?_
      refine scons (CStep.step (PStep.c (p_loadB (y := .val _) rfl wCd6_agg37 (Sees.of rfl) rfl rfl rfl rfl)) rfl rfl rfl rfl) ?_
      refine scons (r_appendR (ob := 30000) rfl wCd6_isl37 wCd6_siz33 wCd6_byt33 wCd6_zer33 rfl rfl (Sees.of rfl) rfl (Sees.of rfl) (by simp only [List.length_cons, List.length_nil, List.length_append]; omega) (by simp only [List.length_cons, List.length_nil, List.length_append]; omega) rfl rfl rfl rfl rfl) ?_
      refine scons (CStep.step (PStep.c (p_assign (y := .row _ _) rfl (Sees.of rfl) rfl)) rfl rfl rfl rfl) ?_
      refine snil ?_
      refine f_seq ?_
      refine f_seq ?_
      refine f_region ?_
      refine scons (CStep.step (PStep.c (p_assign (y := .val _) rfl (Sees.of rfl) rfl)) rfl rfl rfl rfl) ?_
      refine snil ?_
      refine f_block ?_
      refine f_loop (α := Nat × Nat) (fun (i, u) => i ≤ asked.length) (fun (i, u) => [(1, .val (ints asked)), (3, .ref 10003 0 0), (10003, .box 0 (.ccons (iv m) (.ccons (.val (intss ls)) .cnil))), (7, .ref 10007 0 0), (10007, .box 0 (.ccons (iv (Sp.doOf m ls asked a b c d 2000).1.1) (.ccons (.val (bools (Sp.doOf m ls asked a b c d 2000).1.2.1)) (.ccons (.val (stps (lrn (Sp.doOf m ls asked a b c d 2000).1.2.2.1))) (.ccons (.val (ints (Sp.doOf m ls asked a b c d 2000).1.2.2.2.1)) (.ccons (iv (Sp.doOf m ls asked a b c d 2000).1.2.2.2.2) .cnil)))))), (10, iv i), (9, .row 30000 u), (30000, .arr u 33 1 24 ints [] (ls ++ Sp.ones (asked.take i))), (6, bv false)]) (fun (i, u) => asked.length - i) (0, 1) ?_ ?_ ?_
      · exact Nat.zero_le _
      · exact le_ofL ⟨rfl, rfl, rfl, rfl, rfl, rfl, rfl, (by show _ = AV.arr _ _ _ _ _ _ (ls ++ []); rw [List.append_nil]; rfl), rfl, trivial⟩ rfl
      · rintro ⟨i, u⟩ hi
        have hi : i ≤ asked.length := hi
        refine f_seq ?_
        refine f_seq ?_
        refine f_region ?_
        refine scons (CStep.step (PStep.c (p_move (y := .val _) rfl (Sees.of rfl) rfl)) rfl rfl rfl rfl) ?_
        refine scons (CStep.step (PStep.c (p_move (y := .val _) rfl (Sees.of rfl) rfl)) rfl rfl rfl rfl) ?_
        refine scons (CStep.step (PStep.c (p_len rfl wCd6_isl33 (Sees.of rfl))) rfl rfl rfl rfl) ?_
        refine scons (CStep.step (PStep.c (p_lss rfl (Sees.of rfl) (Sees.of rfl))) rfl rfl rfl rfl) ?_
        refine snil ?_
        refine f_cond rfl ?_ ?_
        · intro hc3
          try simp only [bs] at hc3
          refine f_skip ?_
          refine f_seq ?_
          refine f_block ?_
          refine f_region ?_
          refine scons (CStep.step (PStep.c (p_move (y := .row _ _) rfl (Sees.of rfl) rfl)) rfl rfl rfl rfl) ?_
          refine scons (CStep.step (PStep.c (p_move (y := .val _) rfl (Sees.of rfl) rfl)) rfl rfl rfl rfl) ?_
          refine scons (CStep.step (PStep.c (p_move (y := .val _) rfl (Sees.of rfl) rfl)) rfl rfl rfl rfl) ?_
          refine scons (CStep.step (PStep.c (p_move (y := .val _) rfl (Sees.of rfl) rfl)) rfl rfl rfl rfl) ?_
          refine scons (CStep.step (PStep.c (p_add rfl (Sees.of rfl) (Sees.of rfl) (by omega))) rfl rfl rfl rfl) ?_
          refine scons (CStep.step (PStep.c (p_slice (l := i) (h := i + 1) rfl wCd6_isl33 wCd6_siz3 (Sees.of rfl) (Sees.of rfl) (Sees.of rfl) (by omega) (by omega))) rfl rfl rfl rfl) ?_
          refine scons (CStep.step (c_buildSlice (f := ints) (za := []) (xs := [.tmp 50]) rfl rfl wCd6_isl37 wCd6_siz33 wCd6_zer33 rfl rfl ⟨_, _, rfl, (Sees.of rfl), rfl, rfl, rfl⟩) rfl rfl rfl rfl) ?_
          refine scons (r_appendR (ob := 30000) rfl wCd6_isl37 wCd6_siz33 wCd6_byt33 wCd6_zer33 rfl rfl (Sees.of rfl) rfl (Sees.of rfl) (by simp only [List.length_append, Sp.ones, List.length_map, List.length_take, List.length_cons, List.length_nil]; omega) (by simp only [List.length_append, Sp.ones, List.length_map, List.length_take, List.length_cons, List.length_nil]; omega) rfl rfl rfl rfl rfl) ?_
          refine scons (CStep.step (PStep.c (p_assign (y := .row _ _) rfl (Sees.of rfl) rfl)) rfl rfl rfl rfl) ?_
          refine snil ?_
          refine f_nil ?_
          show AWs _ _ _ _ _
          refine f_region ?_
          refine scons (CStep.step (PStep.c (p_move (y := .val _) rfl (Sees.of rfl) rfl)) rfl rfl rfl rfl) ?_
          refine scons (CStep.step (PStep.c (p_add rfl (Sees.of rfl) (Sees.of rfl) (by omega))) rfl rfl rfl rfl) ?_
          refine scons (CStep.step (PStep.c (p_assign (y := .val _) rfl (Sees.of rfl) rfl)) rfl rfl rfl rfl) ?_
          refine snil ?_
          refine f_back ⟨(i + 1, u + 1), ?_, ?_, le_ofL ⟨rfl, rfl, rfl, rfl, rfl, rfl, rfl, (by rw [Sp.ones_step (by omega), ← List.append_assoc]; rfl), rfl, trivial⟩ rfl⟩
          · show i + 1 ≤ _
            omega
          · show _ - (i + 1) < _ - i
            omega
        · intro hc3
          try simp only [bs] at hc3
          refine f_exit ?_
          show AWs _ _ _ _ _
          refine f_seq ?_
          obtain rfl : i = asked.length := by omega
          refine f_le (GLe.le (g_freeze (k := 9) (o1 := 30000) rfl rfl rfl rfl)) ?_ (by simp)
          refine f_draw wCd6_mix (by kernel_rfl) ?_
          refine dcons (CStep.step (PStep.c (p_fieldRef rfl wCd6_fld46_0 wCd6_siz3 rfl (Sees.of rfl) rfl)) rfl rfl rfl rfl) ?_
          refine dcons (CStep.step (PStep.c (p_loadB (y := .val _) rfl wCd6_agg3 (Sees.of rfl) rfl rfl rfl rfl)) rfl rfl rfl rfl) ?_
          refine dcons (CStep.step (PStep.c (p_eql rfl (Sees.of rfl) (Sees.of rfl))) rfl rfl rfl rfl) ?_
          refine dcons (CStep.step (PStep.c (p_fieldRef rfl wCd6_fld39_0 wCd6_siz3 rfl (Sees.of rfl) rfl)) rfl rfl rfl rfl) ?_
          refine dcons (CStep.step (PStep.c (p_loadB (y := .val _) rfl wCd6_agg3 (Sees.of rfl) rfl rfl rfl rfl)) rfl rfl rfl rfl) ?_
          refine dcons (CStep.step (PStep.c (p_move (y := .val _) rfl (Sees.of rfl) rfl)) rfl rfl rfl rfl) ?_
          refine dcons (CStep.step (c_call rfl wCd6_isf26 ⟨_, _, rfl, (Sees.of rfl), rfl, ⟨_, _, rfl, (Sees.of rfl), rfl, rfl⟩⟩ (some_spec m (ls ++ Sp.ones (asked.take asked.length)) (by omega) (by rw [List.take_length]; exact Sp.ones_good hfit))) rfl rfl rfl rfl) ?_
          refine dcons (CStep.step (PStep.c (p_geq rfl (Sees.of rfl) (Sees.of rfl))) rfl rfl rfl rfl) ?_
          refine dcons (CStep.step (PStep.c (p_eqlB rfl wCd6_boo4 (Sees.of rfl) (Sees.of rfl))) rfl rfl rfl rfl) ?_
          refine dcons (CStep.step (PStep.c (p_move (y := .val _) rfl (Sees.of rfl) rfl)) rfl rfl rfl rfl) ?_
          refine dcons (CStep.guard rfl rfl rfl (fun hg0 => PStep.c (p_fieldRef rfl wCd6_fld46_0 wCd6_siz3 rfl (Sees.of rfl) rfl)) rfl rfl rfl rfl rfl) ?_
          refine dcons (CStep.guard rfl rfl rfl (fun hg0 => PStep.c (p_loadB (y := .val _) rfl wCd6_agg3 (Sees.gv' rfl hg0) rfl rfl rfl rfl)) rfl rfl rfl rfl rfl) ?_
          refine dcons (CStep.guard rfl rfl rfl (fun hg0 => PStep.c (p_eql rfl (Sees.gv' rfl hg0) (Sees.of rfl))) rfl rfl rfl rfl rfl) ?_
          refine dcons (CStep.guard rfl rfl rfl (fun hg0 => PStep.c (p_move (y := .val _) rfl (Sees.gv' rfl hg0) rfl)) rfl rfl rfl rfl rfl) ?_
          refine dcons (CStep.guard2 rfl rfl rfl (fun hg1 hg0 => PStep.c (p_fieldRef rfl wCd6_fld46_0 wCd6_siz3 rfl (Sees.of rfl) rfl)) rfl rfl rfl rfl rfl) ?_
          refine dcons (CStep.guard2 rfl rfl rfl (fun hg1 hg0 => PStep.c (p_loadB (y := .val _) rfl wCd6_agg3 (Sees.gv' rfl (and_true_of hg1 hg0)) rfl rfl rfl rfl)) rfl rfl rfl rfl rfl) ?_
          refine dcons (CStep.guard2 rfl rfl rfl (fun hg1 hg0 => PStep.c (p_eql rfl (Sees.gv' rfl (and_true_of hg1 hg0)) (Sees.of rfl))) rfl rfl rfl rfl rfl) ?_
          refine dcons (CStep.guard rfl rfl rfl (fun hg0 => PStep.c (p_or rfl (Sees.gv' rfl hg0) (Sees.of rfl) (fun h => Sees.gv' rfl (and_true_of hg0 (beq_of_eq h))))) rfl rfl rfl rfl rfl) ?_
          refine dcons (CStep.step (PStep.c (p_and rfl (Sees.of rfl) (fun h => Sees.gv' rfl (beq_of_eq h)) (Sees.of rfl))) rfl rfl rfl rfl) ?_
          refine dcons (CStep.step (PStep.c (p_assign (y := .val _) rfl (Sees.of rfl) rfl)) rfl rfl rfl rfl) ?_
          refine dnil (by kernel_rfl) ?_
          refine f_ret ?_
          refine ends_ret (res_eq (res1 rfl (res_tmp rfl (Sees.of rfl))) ?_)
          have hde := Sp.decides hfit htwo
          rw [List.take_length, hgo, hde.1]
          rcases hde.2 with h | h <;> rw [h] <;> rfl

end Go.Um
