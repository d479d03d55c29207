/- Walks of Go functions of this seat, each by its contract. No condition beyond what each theorem says. -/
import Derived.Test.YtpjenbbalengoaaWBet5
import Derived.Test.YtpjenbbalengoaaBt6
import Derived.Test.YtpjenbbalengoaaProg
import Derived.KernelRfl
set_option maxRecDepth 4000
namespace Go.Um
open Go Go.RowKit

theorem wBet7_agg26 : IsAgg Go.Proofs.Try.prog 26 true := by unfold IsAgg; kernel_rfl
theorem wBet7_agg3 : IsAgg Go.Proofs.Try.prog 3 false := by unfold IsAgg; kernel_rfl
theorem wBet7_agg37 : IsAgg Go.Proofs.Try.prog 37 false := by unfold IsAgg; kernel_rfl
theorem wBet7_agg39 : IsAgg Go.Proofs.Try.prog 39 true := by unfold IsAgg; kernel_rfl
theorem wBet7_agg4 : IsAgg Go.Proofs.Try.prog 4 false := by unfold IsAgg; kernel_rfl
theorem wBet7_byt33 : Bytes Go.Proofs.Try.prog 33 24 := by unfold Bytes; kernel_rfl
theorem wBet7_byt4 : Bytes Go.Proofs.Try.prog 4 1 := by unfold Bytes; kernel_rfl
theorem wBet7_fld26_0 : IsField Go.Proofs.Try.prog 26 0 0 3 := by unfold IsField; kernel_rfl
theorem wBet7_fld39_0 : IsField Go.Proofs.Try.prog 39 0 0 3 := by unfold IsField; kernel_rfl
theorem wBet7_fld39_1 : IsField Go.Proofs.Try.prog 39 1 1 37 := by unfold IsField; kernel_rfl
theorem wBet7_int3 : IsInt Go.Proofs.Try.prog 3 .i64 := by unfold IsInt; kernel_rfl
theorem wBet7_int30 : IsInt Go.Proofs.Try.prog 30 .u64 := by unfold IsInt; kernel_rfl
theorem wBet7_isf17 : IsFn Go.Proofs.Try.prog 17 := by unfold IsFn; kernel_rfl
theorem wBet7_isf26 : IsFn Go.Proofs.Try.prog 26 := by unfold IsFn; kernel_rfl
theorem wBet7_isf42 : IsFn Go.Proofs.Try.prog 42 := by unfold IsFn; kernel_rfl
theorem wBet7_isf43 : IsFn Go.Proofs.Try.prog 43 := by unfold IsFn; kernel_rfl
theorem wBet7_isf83 : IsFn Go.Proofs.Try.prog 83 := by unfold IsFn; kernel_rfl
theorem wBet7_isl24 : IsSlice Go.Proofs.Try.prog 24 4 := by unfold IsSlice; kernel_rfl
theorem wBet7_isl37 : IsSlice Go.Proofs.Try.prog 37 33 := by unfold IsSlice; kernel_rfl
theorem wBet7_mix : (Go.Proofs.Try.prog).follows .mixedOrders = true := by kernel_rfl
theorem wBet7_plc26 : Places Go.Proofs.Try.prog 26 [(0, 1), (1, 1)] := by unfold Places; kernel_rfl
theorem wBet7_siz26 : Size Go.Proofs.Try.prog 26 2 := by unfold Size; kernel_rfl
theorem wBet7_siz3 : Size Go.Proofs.Try.prog 3 1 := by unfold Size; kernel_rfl
theorem wBet7_siz33 : Size Go.Proofs.Try.prog 33 1 := by unfold Size; kernel_rfl
theorem wBet7_siz37 : Size Go.Proofs.Try.prog 37 1 := by unfold Size; kernel_rfl
theorem wBet7_siz39 : Size Go.Proofs.Try.prog 39 2 := by unfold Size; kernel_rfl
theorem wBet7_siz4 : Size Go.Proofs.Try.prog 4 1 := by unfold Size; kernel_rfl
def wBet7_z26 : D := .cons (.int .i64 0) (.cons (.int .i64 0) (.nil))
theorem wBet7_zch26 : ∀ (ok : Nat → Prop) (w : World), R Go.Proofs.Try.prog wBet7_z26 ok w (Value.cells (.agg #[(.int .i64 0), (.int .i64 0)])).toList := fun _ _ => z_int (z_int (z_nil))
theorem wBet7_zer26 : Zero Go.Proofs.Try.prog 26 (.agg #[(.int .i64 0), (.int .i64 0)]) := by unfold Zero; kernel_rfl
theorem wBet7_zer33 : Zero Go.Proofs.Try.prog 33 (.slice none 0 0) := by unfold Zero; kernel_rfl
theorem wBet7_zer4 : Zero Go.Proofs.Try.prog 4 (.bool false) := by unfold Zero; kernel_rfl

theorem someB_spec (m : Nat) (l : List (List Int)) (hm : m ≤ 16) (hG : ∀ x ∈ l, Sp.Good m x) :
    Spec Go.Proofs.Try.prog 26 [iv m, .val (intss l)] (di (Sp.btV m l)) := by
  refine spec_of' Go.Proofs.Try.func26 rfl Go.Proofs.Try.ntmps26 rfl ?_
  refine f_seq ?_
  have hp16 : 2 ^ m ≤ 65536 := Nat.pow_le_pow_right (n := 2) (by decide) (show m ≤ 16 by omega)
  have hpw := Sp.pow_ok (m := m) (by omega)
  have hpn := Sp.pow_nat m
  have hpi := Sp.pow_int m
  refine f_region ?_
  refine scons (CStep.step (PStep.c (p_assign (y := .val _) rfl (Sees.of rfl) rfl)) rfl rfl rfl rfl) ?_
  refine snil ?_
  refine f_seq ?_
  refine f_seq ?_
  refine f_region ?_
  refine scons (CStep.step (PStep.c (p_assign (y := .val _) rfl (Sees.of rfl) rfl)) rfl rfl rfl rfl) ?_
  refine snil ?_
  refine f_block ?_
  refine f_loop (α := Nat) (fun w => w ≤ 2 ^ m ∧ ∀ v : Nat, v < w → Sp.all (Sp.bits m v) l = false) (fun w => [(5, iv w), (0, iv m), (1, .val (intss l))]) (fun w => 2 ^ m - w) 0 ?_ ?_ ?_
  · exact ⟨Nat.zero_le _, fun v hv => absurd hv (Nat.not_lt_zero _)⟩
  · exact le_ofL ⟨rfl, rfl, rfl, trivial⟩ rfl
  · rintro w ⟨hw, hp⟩
    refine f_seq ?_
    refine f_seq ?_
    refine f_region ?_
    refine scons (CStep.step (PStep.c (p_move (y := .val _) rfl (Sees.of rfl) rfl)) rfl rfl rfl rfl) ?_
    refine scons (CStep.step (PStep.c (p_move (y := .val _) rfl (Sees.of rfl) rfl)) rfl rfl rfl rfl) ?_
    refine scons (CStep.step (PStep.c (p_convU rfl wBet7_int3 wBet7_int30 (Sees.of rfl) (by omega))) rfl rfl rfl rfl) ?_
    refine scons (CStep.step (PStep.c (p_shl rfl (Sees.of rfl) (Sees.of rfl) (by omega) (by omega) (by first | omega | assumption))) rfl rfl rfl rfl) ?_
    rw [hpn]
    refine scons (CStep.step (PStep.c (p_lss rfl (Sees.of rfl) (Sees.of rfl))) rfl rfl rfl rfl) ?_
    refine snil ?_
    refine f_cond rfl ?_ ?_
    · intro hc1
      try simp only [bs] at hc1
      refine f_skip ?_
      refine f_seq ?_
      refine f_block ?_
      refine f_seq ?_
      refine f_region ?_
      refine scons (CStep.step (PStep.c (p_move (y := .val _) rfl (Sees.of rfl) rfl)) rfl rfl rfl rfl) ?_
      refine scons (CStep.step (PStep.c (p_move (y := .val _) rfl (Sees.of rfl) rfl)) rfl rfl rfl rfl) ?_
      refine scons (CStep.step (PStep.c (p_move (y := .val _) rfl (Sees.of rfl) rfl)) rfl rfl rfl rfl) ?_
      refine scons (CStep.step (c_call rfl wBet7_isf17 ⟨_, _, rfl, (Sees.of rfl), rfl, ⟨_, _, rfl, (Sees.of rfl), rfl, rfl⟩⟩ ((bits_spec m w (by omega)).spec false)) rfl rfl rfl rfl) ?_
      refine scons (CStep.step (c_call rfl wBet7_isf42 ⟨_, _, rfl, (Sees.of rfl), rfl, ⟨_, _, rfl, (Sees.of rfl), rfl, rfl⟩⟩ (all_spec (Sp.bits m w) l (by rw [Sp.bits_length]; exact hG))) rfl rfl rfl rfl) ?_
      refine snil ?_
      refine f_cond rfl ?_ ?_
      · intro hc2
        try simp only [bs] at hc2
        refine f_seq ?_
        refine f_region ?_
        refine scons (CStep.step (PStep.c (p_move (y := .val _) rfl (Sees.of rfl) rfl)) rfl rfl rfl rfl) ?_
        refine scons (CStep.step (PStep.c (p_assign (y := .val _) rfl (Sees.of rfl) rfl)) rfl rfl rfl rfl) ?_
        refine snil ?_
        refine f_ret ?_
        refine ends_ret (res_eq (res1 rfl (res_tmp rfl (Sees.of rfl))) ?_)
        rw [Sp.btV_at (by omega) hp hc2]
      · intro hc2
        try simp only [bs] at hc2
        refine f_skip ?_
        refine f_nil ?_
        show AWs _ _ _ _ _
        refine f_region ?_
        refine scons (CStep.step (PStep.c (p_move (y := .val _) rfl (Sees.of rfl) rfl)) rfl rfl rfl rfl) ?_
        refine scons (CStep.step (PStep.c (p_add rfl (Sees.of rfl) (Sees.of rfl) (by omega))) rfl rfl rfl rfl) ?_
        refine scons (CStep.step (PStep.c (p_assign (y := .val _) rfl (Sees.of rfl) rfl)) rfl rfl rfl rfl) ?_
        refine snil ?_
        refine f_back ⟨w + 1, ?_, ?_, le_ofL ⟨rfl, rfl, rfl, trivial⟩ rfl⟩
        · refine ⟨by omega, fun v hv => ?_⟩
          by_cases e : v = w
          · rw [e]; exact hc2
          · exact hp v (by omega)
        · omega
    · intro hc1
      try simp only [bs] at hc1
      refine f_exit ?_
      show AWs _ _ _ _ _
      refine f_seq ?_
      refine f_region ?_
      refine scons (CStep.step (PStep.c (p_assign (y := .val _) rfl (Sees.of rfl) rfl)) rfl rfl rfl rfl) ?_
      refine snil ?_
      refine f_ret ?_
      refine ends_ret (res_eq (res1 rfl (res_tmp rfl (Sees.of rfl))) ?_)
      rw [Sp.btV_none (fun v hv => hp v (by omega))]

theorem someB2_spec (n : Int) (a : List (List Int)) (m : Int) (b : List (List Int)) (h : (Sp.betW n a m b).1 = 0) : Spec Go.Proofs.Try.prog 26 [iv n, .val (intss (a ++ b))] (di (Sp.btV n.toNat (a ++ b))) := by
  obtain ⟨k, rfl, rfl, hk, hca, hcb, hlab⟩ := Sp.bet_ok h
  exact someB_spec k (a ++ b) hk (fun x hx => (List.mem_append.1 hx).elim ((Sp.check_use hca).1 x) ((Sp.check_use hcb).1 x))
theorem apartL_spec (n : Int) (a : List (List Int)) (m : Int) (b : List (List Int)) :
    Spec Go.Proofs.Try.prog 45 [.val (cnf n a), .val (cnf m b)] (fault (Sp.apW n a m b).1 (Sp.apW n a m b).2) := by
  refine spec_of' Go.Proofs.Try.func45 rfl Go.Proofs.Try.ntmps45 rfl ?_
  refine f_seq ?_
  refine f_region ?_
  refine scons (r_box (ob := 10002) rfl (Sees.of rfl) rfl rfl rfl rfl rfl rfl) ?_
  refine scons (r_box (ob := 10003) rfl (Sees.of rfl) rfl rfl rfl rfl rfl rfl) ?_
  refine scons (r_alloc (ob := 10004) rfl wBet7_zer26 rfl rfl rfl rfl rfl rfl) ?_
  refine snil ?_
  refine f_seq ?_
  refine f_region ?_
  refine scons (CStep.step (PStep.c (p_loadBS rfl wBet7_agg39 wBet7_siz39 (Sees.of rfl) rfl rfl rfl)) rfl rfl rfl rfl) ?_
  refine scons (CStep.step (PStep.c (p_loadBS rfl wBet7_agg39 wBet7_siz39 (Sees.of rfl) rfl rfl rfl)) rfl rfl rfl rfl) ?_
  refine scons (CStep.step (c_call rfl wBet7_isf83 ⟨_, _, rfl, (Sees.of rfl), rfl, ⟨_, _, rfl, (Sees.of rfl), rfl, rfl⟩⟩ (pairWrong_spec n a m b)) rfl rfl rfl rfl) ?_
  refine scons (r_alloc (ob := 10005) rfl wBet7_zer26 rfl rfl rfl rfl rfl rfl) ?_
  refine scons (r_storeS rfl wBet7_siz26 rfl rfl rfl (Sees.of rfl) rfl (Sees.of rfl) rfl rfl rfl rfl) ?_
  refine snil ?_
  refine f_seq ?_
  refine f_seq ?_
  refine f_draw wBet7_mix (by kernel_rfl) ?_
  refine dcons (CStep.step (PStep.c (p_fieldRef rfl wBet7_fld26_0 wBet7_siz3 rfl (Sees.of rfl) rfl)) rfl rfl rfl rfl) ?_
  refine dcons (CStep.step (PStep.c (p_loadB (y := .val _) rfl wBet7_agg3 (Sees.of rfl) rfl rfl rfl rfl)) rfl rfl rfl rfl) ?_
  refine dcons (CStep.step (PStep.c (p_eql rfl (Sees.of rfl) (Sees.of rfl))) rfl rfl rfl rfl) ?_
  refine dcons (CStep.step (PStep.c (p_move (y := .val _) rfl (Sees.of rfl) rfl)) rfl rfl rfl rfl) ?_
  rcases Bool.eq_false_or_eq_true (decide ((Sp.betW n a m b).1 = 0)) with hs | hs
  · skip
    have hq := Sp.bet_len (of_decide_eq_true hs)
    refine dcons (LStep.gtrue rfl rfl rfl rfl rfl (by first | exact hs | simp only [hs, Bool.not_true, Bool.not_false] | simp [hs]) (CStep.step (PStep.c (p_fieldRef rfl wBet7_fld39_0 wBet7_siz3 rfl (Sees.of rfl) rfl)) rfl rfl rfl rfl)) ?_
    refine dcons (LStep.gtrue rfl rfl rfl rfl rfl (by first | exact hs | simp only [hs, Bool.not_true, Bool.not_false] | simp [hs]) (CStep.step (PStep.c (p_loadB (y := .val _) rfl wBet7_agg3 (Sees.of rfl) rfl rfl rfl rfl)) rfl rfl rfl rfl)) ?_
    refine dcons (LStep.gtrue rfl rfl rfl rfl rfl (by first | exact hs | simp only [hs, Bool.not_true, Bool.not_false] | simp [hs]) (r_buildRow (f := ints) (za := []) (xs := []) (by_ := 24) (ob := 30000) rfl rfl wBet7_isl37 wBet7_siz33 wBet7_zer33 rfl rfl (by decide) rfl rfl rfl rfl rfl rfl)) ?_
    refine dcons (LStep.gtrue rfl rfl rfl rfl rfl (by first | exact hs | simp only [hs, Bool.not_true, Bool.not_false] | simp [hs]) (CStep.step (PStep.c (p_fieldRef rfl wBet7_fld39_1 wBet7_siz37 rfl (Sees.of rfl) rfl)) rfl rfl rfl rfl)) ?_
    refine dcons (LStep.gtrue rfl rfl rfl rfl rfl (by first | exact hs | simp only [hs, Bool.not_true, Bool.not_false] | simp [hs]) (CStep.step (PStep.c (p_loadB (y := .val _) rfl wBet7_agg37 (Sees.of rfl) rfl rfl rfl rfl)) rfl rfl rfl rfl)) ?_
    refine dcons (LStep.gtrue rfl rfl rfl rfl rfl (by first | exact hs | simp only [hs, Bool.not_true, Bool.not_false] | simp [hs]) (r_appendR (ob := 30000) rfl wBet7_isl37 wBet7_siz33 wBet7_byt33 wBet7_zer33 rfl rfl (Sees.of rfl) rfl (Sees.of rfl) (by simp only [List.length_nil]; omega) (by simp only [List.length_nil]; omega) rfl rfl rfl rfl rfl)) ?_
    refine dcons (LStep.gtrue rfl rfl rfl rfl rfl (by first | exact hs | simp only [hs, Bool.not_true, Bool.not_false] | simp [hs]) (CStep.step (PStep.c (p_fieldRef rfl wBet7_fld39_1 wBet7_siz37 rfl (Sees.of rfl) rfl)) rfl rfl rfl rfl)) ?_
    refine dcons (LStep.gtrue rfl rfl rfl rfl rfl (by first | exact hs | simp only [hs, Bool.not_true, Bool.not_false] | simp [hs]) (CStep.step (PStep.c (p_loadB (y := .val _) rfl wBet7_agg37 (Sees.of rfl) rfl rfl rfl rfl)) rfl rfl rfl rfl)) ?_
    refine dcons (LStep.gtrue rfl rfl rfl rfl rfl (by first | exact hs | simp only [hs, Bool.not_true, Bool.not_false] | simp [hs]) (r_appendR (ob := 30000) rfl wBet7_isl37 wBet7_siz33 wBet7_byt33 wBet7_zer33 rfl rfl (Sees.of rfl) rfl (Sees.of rfl) (by simp only [List.length_append, List.length_nil]; omega) (by simp only [List.length_append, List.length_nil]; omega) rfl rfl rfl rfl rfl)) ?_
    refine dcons (LStep.gtrue rfl rfl rfl rfl rfl (by first | exact hs | simp only [hs, Bool.not_true, Bool.not_false] | simp [hs]) (CStep.step (c_callS (q := true) rfl wBet7_isf26 (someB2_spec n a m b (of_decide_eq_true hs)) (sa_cons (sh_of (Sees.of rfl) rfl) (sa_cons (sh_row (Sees.of rfl) rfl) (sa_nil))) rfl) rfl rfl rfl rfl)) ?_
    refine dcons (LStep.gtrue rfl rfl rfl rfl rfl (by first | exact hs | simp only [hs, Bool.not_true, Bool.not_false] | simp [hs]) (CStep.step (PStep.c (p_geq rfl (Sees.of rfl) (Sees.of rfl))) rfl rfl rfl rfl)) ?_
    refine dcons (CStep.step (PStep.c (p_and rfl (Sees.of rfl) (fun _ => (Sees.of rfl)) (Sees.of rfl))) rfl rfl rfl rfl) ?_
    refine dnil (by kernel_rfl) ?_
    refine f_cond rfl ?_ ?_
    · intro hc1
      try simp only [bs] at hc1
      refine f_region ?_
      refine scons (CStep.step (PStep.c (p_build rfl wBet7_plc26 wBet7_zer26 (by decide) wBet7_zch26 ⟨_, _, _, rfl, rfl, rfl, (Sees.of rfl), rfl⟩ rfl)) rfl rfl rfl rfl) ?_
      refine scons (r_storeS rfl wBet7_siz26 rfl rfl rfl (Sees.of rfl) rfl (Sees.of rfl) rfl rfl rfl rfl) ?_
      refine snil ?_
      refine f_seq ?_
      refine f_region ?_
      refine scons (CStep.step (PStep.c (p_loadBS rfl wBet7_agg26 wBet7_siz26 (Sees.of rfl) rfl rfl rfl)) rfl rfl rfl rfl) ?_
      refine scons (r_storeS rfl wBet7_siz26 rfl rfl rfl (Sees.of rfl) rfl (Sees.of rfl) rfl rfl rfl rfl) ?_
      refine snil ?_
      refine f_ret ?_
      refine ends_ret (res_eq (res1 rfl (res_cell (by rfl) rfl rfl wBet7_agg26 wBet7_siz26 rfl rfl)) ?_)
      rw [Sp.apW_yes hc1]
      all_goals rfl
    · intro hc1
      try simp only [bs] at hc1
      refine f_skip ?_
      refine f_seq ?_
      refine f_region ?_
      refine scons (CStep.step (PStep.c (p_loadBS rfl wBet7_agg26 wBet7_siz26 (Sees.of rfl) rfl rfl rfl)) rfl rfl rfl rfl) ?_
      refine scons (r_storeS rfl wBet7_siz26 rfl rfl rfl (Sees.of rfl) rfl (Sees.of rfl) rfl rfl rfl rfl) ?_
      refine snil ?_
      refine f_ret ?_
      refine ends_ret (res_eq (res1 rfl (res_cell (by rfl) rfl rfl wBet7_agg26 wBet7_siz26 rfl rfl)) ?_)
      rw [Sp.apW_no (by omega)]
      all_goals rfl
  · skip
    refine dcons (LStep.gfalse rfl rfl rfl rfl rfl (by first | exact hs | simp only [hs, Bool.not_true, Bool.not_false] | simp [hs]) rfl rfl rfl) ?_
    refine dcons (LStep.gfalse rfl rfl rfl rfl rfl (by first | exact hs | simp only [hs, Bool.not_true, Bool.not_false] | simp [hs]) rfl rfl rfl) ?_
    refine dcons (LStep.gfalse rfl rfl rfl rfl rfl (by first | exact hs | simp only [hs, Bool.not_true, Bool.not_false] | simp [hs]) rfl rfl rfl) ?_
    refine dcons (LStep.gfalse rfl rfl rfl rfl rfl (by first | exact hs | simp only [hs, Bool.not_true, Bool.not_false] | simp [hs]) rfl rfl rfl) ?_
    refine dcons (LStep.gfalse rfl rfl rfl rfl rfl (by first | exact hs | simp only [hs, Bool.not_true, Bool.not_false] | simp [hs]) rfl rfl rfl) ?_
    refine dcons (LStep.gfalse rfl rfl rfl rfl rfl (by first | exact hs | simp only [hs, Bool.not_true, Bool.not_false] | simp [hs]) rfl rfl rfl) ?_
    refine dcons (LStep.gfalse rfl rfl rfl rfl rfl (by first | exact hs | simp only [hs, Bool.not_true, Bool.not_false] | simp [hs]) rfl rfl rfl) ?_
    refine dcons (LStep.gfalse rfl rfl rfl rfl rfl (by first | exact hs | simp only [hs, Bool.not_true, Bool.not_false] | simp [hs]) rfl rfl rfl) ?_
    refine dcons (LStep.gfalse rfl rfl rfl rfl rfl (by first | exact hs | simp only [hs, Bool.not_true, Bool.not_false] | simp [hs]) rfl rfl rfl) ?_
    refine dcons (LStep.gfalse rfl rfl rfl rfl rfl (by first | exact hs | simp only [hs, Bool.not_true, Bool.not_false] | simp [hs]) rfl rfl rfl) ?_
    refine dcons (LStep.gfalse rfl rfl rfl rfl rfl (by first | exact hs | simp only [hs, Bool.not_true, Bool.not_false] | simp [hs]) rfl rfl rfl) ?_
    refine dcons (CStep.step (PStep.c (p_and (ba := false) rfl (Sees.of rfl) (fun h => absurd h (by first | simp only [hs, Bool.not_true, Bool.not_false, Bool.true_eq_false, Bool.false_eq_true, not_false_eq_true] | simp [hs])) (Sees.of rfl))) rfl rfl rfl rfl) ?_
    refine dnil (by kernel_rfl) ?_
    refine f_cond rfl ?_ ?_
    · intro hc2
      try simp only [bs] at hc2
      exfalso
      rw [decide_eq_false_iff_not] at hs
      exact hs hc2.1
    · intro hc2
      try simp only [bs] at hc2
      refine f_skip ?_
      refine f_seq ?_
      refine f_region ?_
      refine scons (CStep.step (PStep.c (p_loadBS rfl wBet7_agg26 wBet7_siz26 (Sees.of rfl) rfl rfl rfl)) rfl rfl rfl rfl) ?_
      refine scons (r_storeS rfl wBet7_siz26 rfl rfl rfl (Sees.of rfl) rfl (Sees.of rfl) rfl rfl rfl rfl) ?_
      refine snil ?_
      refine f_ret ?_
      refine ends_ret (res_eq (res1 rfl (res_cell (by rfl) rfl rfl wBet7_agg26 wBet7_siz26 rfl rfl)) ?_)
      rw [Sp.apW_no (fun h => absurd h.1 (of_decide_eq_false hs))]
      all_goals rfl

theorem forSome_spec (k : Nat) (l o : List (List Int)) (hk : k ≤ 8) (hl : ∀ c ∈ l, Sp.Good k c) :
    SpecN Go.Proofs.Try.prog 47 [iv k, .val (intss l), .val (intss o)] 4 1 1 D.bool (Sp.dtab (Sp.someT o (fun x => Sp.all x l) k) k) := by
  refine specN_of' Go.Proofs.Try.func47 rfl Go.Proofs.Try.ntmps47 rfl ?_
  refine f_seq ?_
  have hp16 : 2 ^ k ≤ 65536 := Nat.pow_le_pow_right (n := 2) (by decide) (show k ≤ 16 by omega)
  have hpw := Sp.pow_ok (m := k) (by omega)
  have hpn := Sp.pow_nat k
  have hpi := Sp.pow_int k
  have hft := fun w => Sp.fsT_len k l o w
  refine f_region ?_
  refine scons (CStep.step (PStep.c (p_assign (y := .emp) rfl (Sees.of rfl) rfl)) rfl rfl rfl rfl) ?_
  refine snil ?_
  refine f_seq ?_
  refine f_region ?_
  refine scons (CStep.step (PStep.c (p_move (y := .val _) rfl (Sees.of rfl) rfl)) rfl rfl rfl rfl) ?_
  refine scons (CStep.step (PStep.c (p_convU rfl wBet7_int3 wBet7_int30 (Sees.of rfl) (by omega))) rfl rfl rfl rfl) ?_
  refine scons (CStep.step (PStep.c (p_shl rfl (Sees.of rfl) (Sees.of rfl) (by omega) (by omega) (by first | omega | assumption))) rfl rfl rfl rfl) ?_
  refine scons (r_make (m := 2 ^ k) (f := D.bool) (z := false) (ob := 10015) rfl wBet7_isl24 wBet7_siz4 wBet7_byt4 wBet7_zer4 rfl rfl rfl (fun _ _ => rfl) (Sees.of (congrArg (fun q => AV.val (.int .i64 q)) (Sp.pow_nat k))) (by omega) (by omega) rfl rfl rfl rfl rfl) ?_
  refine scons (CStep.step (PStep.c (p_assign (y := .row _ _) rfl (Sees.of rfl) rfl)) rfl rfl rfl rfl) ?_
  refine snil ?_
  refine f_seq ?_
  refine f_seq ?_
  refine f_region ?_
  refine scons (CStep.step (PStep.c (p_assign (y := .val _) rfl (Sees.of rfl) rfl)) rfl rfl rfl rfl) ?_
  refine snil ?_
  refine f_block ?_
  refine f_loop (α := Nat) (fun w => w ≤ 2 ^ k) (fun w => [(8, iv w), (7, .row 10015 0), (10015, .arr 0 4 1 1 D.bool false (Sp.fsT k l o w)), (0, iv k), (1, .val (intss l)), (2, .val (intss o)), (6, .emp)]) (fun w => 2 ^ k - w) 0 ?_ ?_ ?_
  · exact Nat.zero_le _
  · exact le_ofL ⟨rfl, rfl, (by rw [Sp.fsT_zero]; rfl), rfl, rfl, rfl, rfl, trivial⟩ rfl
  · rintro w hw
    have hw : w ≤ 2 ^ k := hw
    have hfw := hft w
    refine f_seq ?_
    refine f_seq ?_
    refine f_region ?_
    refine scons (CStep.step (PStep.c (p_move (y := .val _) rfl (Sees.of rfl) rfl)) rfl rfl rfl rfl) ?_
    refine scons (CStep.step (PStep.c (p_move (y := .row _ _) rfl (Sees.of rfl) rfl)) rfl rfl rfl rfl) ?_
    refine scons (CStep.step (PStep.c (p_lenR rfl wBet7_isl24 (Sees.of rfl) rfl)) rfl rfl rfl rfl) ?_
    refine scons (CStep.step (PStep.c (p_lss rfl (Sees.of rfl) (Sees.of rfl))) rfl rfl rfl rfl) ?_
    refine snil ?_
    refine f_cond rfl ?_ ?_
    · intro hc1
      try simp only [bs] at hc1
      refine f_skip ?_
      refine f_seq ?_
      refine f_block ?_
      refine f_seq ?_
      refine f_seq ?_
      refine f_region ?_
      refine scons (CStep.step (PStep.c (p_move (y := .val _) rfl (Sees.of rfl) rfl)) rfl rfl rfl rfl) ?_
      refine scons (CStep.step (PStep.c (p_move (y := .val _) rfl (Sees.of rfl) rfl)) rfl rfl rfl rfl) ?_
      refine scons (CStep.step (PStep.c (p_move (y := .val _) rfl (Sees.of rfl) rfl)) rfl rfl rfl rfl) ?_
      refine scons (CStep.step (c_call rfl wBet7_isf17 ⟨_, _, rfl, (Sees.of rfl), rfl, ⟨_, _, rfl, (Sees.of rfl), rfl, rfl⟩⟩ ((bits_spec k w (by omega)).spec false)) rfl rfl rfl rfl) ?_
      refine scons (CStep.step (c_call rfl wBet7_isf42 ⟨_, _, rfl, (Sees.of rfl), rfl, ⟨_, _, rfl, (Sees.of rfl), rfl, rfl⟩⟩ (all_spec (Sp.bits k w) l (by rw [Sp.bits_length]; exact hl))) rfl rfl rfl rfl) ?_
      refine scons (CStep.step (PStep.c (p_not rfl (Sees.of rfl))) rfl rfl rfl rfl) ?_
      refine snil ?_
      refine f_cond rfl ?_ ?_
      · intro hc2
        try simp only [bs] at hc2
        refine f_exit ?_
        show AWs _ _ _ _ _
        refine f_region ?_
        refine scons (CStep.step (PStep.c (p_move (y := .val _) rfl (Sees.of rfl) rfl)) rfl rfl rfl rfl) ?_
        refine scons (CStep.step (PStep.c (p_add rfl (Sees.of rfl) (Sees.of rfl) (by omega))) rfl rfl rfl rfl) ?_
        refine scons (CStep.step (PStep.c (p_assign (y := .val _) rfl (Sees.of rfl) rfl)) rfl rfl rfl rfl) ?_
        refine snil ?_
        refine f_back ⟨w + 1, ?_, ?_, le_ofL ⟨rfl, rfl, (by rw [Sp.fsT_skip hc2]; rfl), rfl, rfl, rfl, rfl, trivial⟩ rfl⟩
        · omega
        · omega
      · intro hc2
        try simp only [bs] at hc2
        refine f_skip ?_
        refine f_seq ?_
        refine f_region ?_
        refine scons (CStep.step (PStep.c (p_assign (y := .val _) rfl (Sees.of rfl) rfl)) rfl rfl rfl rfl) ?_
        refine snil ?_
        refine f_block ?_
        refine f_loop (α := Nat) (fun v => v ≤ 2 ^ k) (fun v => [(9, iv v), (8, iv w), (7, .row 10015 0), (10015, .arr 0 4 1 1 D.bool false (Sp.fillTo (2 ^ k) (Sp.fsA k l o w) (Sp.fsA k l o (w + 1)) v)), (0, iv k), (1, .val (intss l)), (2, .val (intss o)), (6, .emp)]) (fun v => 2 ^ k - v) 0 ?_ ?_ ?_
        · exact Nat.zero_le _
        · exact le_ofL ⟨rfl, rfl, rfl, (by rw [← Sp.fsT_fill]; rfl), rfl, rfl, rfl, rfl, trivial⟩ rfl
        · rintro v hv
          have hv : v ≤ 2 ^ k := hv
          have hfl := Sp.fill_len (2 ^ k) (Sp.fsA k l o w) (Sp.fsA k l o (w + 1)) v
          refine f_seq ?_
          refine f_seq ?_
          refine f_region ?_
          refine scons (CStep.step (PStep.c (p_move (y := .val _) rfl (Sees.of rfl) rfl)) rfl rfl rfl rfl) ?_
          refine scons (CStep.step (PStep.c (p_move (y := .row _ _) rfl (Sees.of rfl) rfl)) rfl rfl rfl rfl) ?_
          refine scons (CStep.step (PStep.c (p_lenR rfl wBet7_isl24 (Sees.of rfl) rfl)) rfl rfl rfl rfl) ?_
          refine scons (CStep.step (PStep.c (p_lss rfl (Sees.of rfl) (Sees.of rfl))) rfl rfl rfl rfl) ?_
          refine snil ?_
          refine f_cond rfl ?_ ?_
          · intro hc3
            try simp only [bs] at hc3
            refine f_skip ?_
            refine f_seq ?_
            refine f_block ?_
            refine f_seq ?_
            refine f_region ?_
            refine scons (CStep.step (PStep.c (p_assign (y := .val _) rfl (Sees.of rfl) rfl)) rfl rfl rfl rfl) ?_
            refine snil ?_
            refine f_seq ?_
            refine f_seq ?_
            refine f_region ?_
            refine scons (CStep.step (PStep.c (p_assign (y := .val _) rfl (Sees.of rfl) rfl)) rfl rfl rfl rfl) ?_
            refine snil ?_
            refine f_block ?_
            refine f_loop (α := Nat) (fun j => j ≤ k) (fun j => [(11, iv ((j : Int) + 1)), (10, bv (Sp.sameTo o k w v j)), (9, iv v), (8, iv w), (7, .row 10015 0), (10015, .arr 0 4 1 1 D.bool false (Sp.fillTo (2 ^ k) (Sp.fsA k l o w) (Sp.fsA k l o (w + 1)) v)), (0, iv k), (1, .val (intss l)), (2, .val (intss o)), (6, .emp)]) (fun j => k - j) 0 ?_ ?_ ?_
            · exact Nat.zero_le _
            · exact le_ofL ⟨rfl, rfl, rfl, rfl, rfl, rfl, rfl, rfl, rfl, rfl, trivial⟩ rfl
            · rintro j hj
              have hj : j ≤ k := hj
              have hpv : ((k : Int) - ((j : Int) + 1)).toNat = k - 1 - j := by omega
              refine f_seq ?_
              refine f_seq ?_
              refine f_region ?_
              refine scons (CStep.step (PStep.c (p_move (y := .val _) rfl (Sees.of rfl) rfl)) rfl rfl rfl rfl) ?_
              refine scons (CStep.step (PStep.c (p_move (y := .val _) rfl (Sees.of rfl) rfl)) rfl rfl rfl rfl) ?_
              refine scons (CStep.step (PStep.c (p_leq rfl (Sees.of rfl) (Sees.of rfl))) rfl rfl rfl rfl) ?_
              refine snil ?_
              refine f_cond rfl ?_ ?_
              · intro hc4
                try simp only [bs] at hc4
                refine f_skip ?_
                refine f_seq ?_
                refine f_block ?_
                refine f_seq ?_
                have hx : w ^^^ v < 2 ^ k := Nat.xor_lt_two_pow (by omega) (by omega)
                refine f_region ?_
                refine scons (CStep.step (PStep.c (p_move (y := .val _) rfl (Sees.of rfl) rfl)) rfl rfl rfl rfl) ?_
                refine scons (CStep.step (PStep.c (p_move (y := .val _) rfl (Sees.of rfl) rfl)) rfl rfl rfl rfl) ?_
                refine scons (CStep.step (c_call rfl wBet7_isf43 ⟨_, _, rfl, (Sees.of rfl), rfl, ⟨_, _, rfl, (Sees.of rfl), rfl, rfl⟩⟩ (stands_spec o ((j : Int) + 1) (by omega))) rfl rfl rfl rfl) ?_
                refine scons (CStep.step (PStep.c (p_move (y := .val _) rfl (Sees.of rfl) rfl)) rfl rfl rfl rfl) ?_
                refine scons (CStep.guard rfl rfl rfl (fun hg0 => PStep.c (p_move (y := .val _) rfl (Sees.of rfl) rfl)) rfl rfl rfl rfl rfl) ?_
                refine scons (CStep.guard rfl rfl rfl (fun hg0 => PStep.c (p_move (y := .val _) rfl (Sees.of rfl) rfl)) rfl rfl rfl rfl rfl) ?_
                refine scons (CStep.guard rfl rfl rfl (fun hg0 => by have hp0 := hg0; (try simp only [bs] at hp0); exact PStep.c (p_xorN rfl (Sees.gv' rfl hg0) (Sees.gv' rfl hg0) (by omega) (by omega))) rfl rfl rfl rfl rfl) ?_
                refine scons (CStep.guard rfl rfl rfl (fun hg0 => PStep.c (p_move (y := .val _) rfl (Sees.of rfl) rfl)) rfl rfl rfl rfl rfl) ?_
                refine scons (CStep.guard rfl rfl rfl (fun hg0 => PStep.c (p_move (y := .val _) rfl (Sees.of rfl) rfl)) rfl rfl rfl rfl rfl) ?_
                refine scons (CStep.guard rfl rfl rfl (fun hg0 => by have hp0 := hg0; (try simp only [bs] at hp0); exact PStep.c (p_sub rfl (Sees.gv' rfl hg0) (Sees.gv' rfl hg0) (by omega))) rfl rfl rfl rfl rfl) ?_
                refine scons (CStep.guard rfl rfl rfl (fun hg0 => by have hp0 := hg0; (try simp only [bs] at hp0); exact PStep.c (p_convU rfl wBet7_int3 wBet7_int30 (Sees.gv' rfl hg0) (by omega))) rfl rfl rfl rfl rfl) ?_
                refine scons (CStep.guard rfl rfl rfl (fun hg0 => by have hp0 := hg0; (try simp only [bs] at hp0); exact PStep.c (p_shr rfl (Sees.gv' rfl hg0) (Sees.gv' rfl hg0) (by omega) (by omega))) rfl rfl rfl rfl rfl) ?_
                refine scons (CStep.guard rfl rfl rfl (fun hg0 => PStep.c (p_and1 rfl (Sees.gv' rfl hg0) (Sees.of rfl))) rfl rfl rfl rfl rfl) ?_
                refine scons (CStep.guard rfl rfl rfl (fun hg0 => PStep.c (p_eql rfl (Sees.gv' rfl hg0) (Sees.of rfl))) rfl rfl rfl rfl rfl) ?_
                refine scons (CStep.step (PStep.c (p_and rfl (Sees.of rfl) (fun h => Sees.gv' rfl (beq_of_eq h)) (Sees.of rfl))) rfl rfl rfl rfl) ?_
                refine snil ?_
                refine f_cond rfl ?_ ?_
                · intro hc5
                  try simp only [bs] at hc5
                  refine f_region ?_
                  refine scons (CStep.step (PStep.c (p_assign (y := .val _) rfl (Sees.of rfl) rfl)) rfl rfl rfl rfl) ?_
                  refine snil ?_
                  refine f_nil ?_
                  show AWs _ _ _ _ _
                  refine f_region ?_
                  refine scons (CStep.step (PStep.c (p_move (y := .val _) rfl (Sees.of rfl) rfl)) rfl rfl rfl rfl) ?_
                  refine scons (CStep.step (PStep.c (p_add rfl (Sees.of rfl) (Sees.of rfl) (by omega))) rfl rfl rfl rfl) ?_
                  refine scons (CStep.step (PStep.c (p_assign (y := .val _) rfl (Sees.of rfl) rfl)) rfl rfl rfl rfl) ?_
                  refine snil ?_
                  refine f_back ⟨j + 1, ?_, ?_, le_ofL ⟨(by show AV.val (.int .i64 ((j : Int) + 1 + 1)) = _; exact congrArg (fun q => AV.val (.int .i64 q)) (by omega)), (by rw [Sp.sameTo_succ, hc5.1, show decide (((w ^^^ v : Nat) : Int) / 2 ^ (k - 1 - j) % 2 = 1) = true from decide_eq_true (by have := hc5.2; rw [hpv] at this; exact this)]; simp; rfl), rfl, rfl, rfl, rfl, rfl, rfl, rfl, rfl, trivial⟩ rfl⟩
                  · omega
                  · omega
                · intro hc5
                  try simp only [bs] at hc5
                  refine f_skip ?_
                  refine f_nil ?_
                  show AWs _ _ _ _ _
                  refine f_region ?_
                  refine scons (CStep.step (PStep.c (p_move (y := .val _) rfl (Sees.of rfl) rfl)) rfl rfl rfl rfl) ?_
                  refine scons (CStep.step (PStep.c (p_add rfl (Sees.of rfl) (Sees.of rfl) (by omega))) rfl rfl rfl rfl) ?_
                  refine scons (CStep.step (PStep.c (p_assign (y := .val _) rfl (Sees.of rfl) rfl)) rfl rfl rfl rfl) ?_
                  refine snil ?_
                  refine f_back ⟨j + 1, ?_, ?_, le_ofL ⟨(by show AV.val (.int .i64 ((j : Int) + 1 + 1)) = _; exact congrArg (fun q => AV.val (.int .i64 q)) (by omega)), (by rw [Sp.sameTo_succ, show (Sp.occ o ((j : Int) + 1) && decide (((w ^^^ v : Nat) : Int) / 2 ^ (k - 1 - j) % 2 = 1)) = false from by rcases hc5 with h | h <;> first | (rw [h]; rfl) | (rw [decide_eq_false (by rw [hpv] at h; exact h), Bool.and_false])]; simp; rfl), rfl, rfl, rfl, rfl, rfl, rfl, rfl, rfl, trivial⟩ rfl⟩
                  · omega
                  · omega
              · intro hc4
                try simp only [bs] at hc4
                refine f_exit ?_
                show AWs _ _ _ _ _
                refine f_region ?_
                refine scons (CStep.step (PStep.c (p_move (y := .row _ _) rfl (Sees.of rfl) rfl)) rfl rfl rfl rfl) ?_
                refine scons (CStep.step (PStep.c (p_move (y := .val _) rfl (Sees.of rfl) rfl)) rfl rfl rfl rfl) ?_
                refine scons (CStep.step (PStep.c (p_move (y := .row _ _) rfl (Sees.of rfl) rfl)) rfl rfl rfl rfl) ?_
                refine scons (CStep.step (PStep.c (p_move (y := .val _) rfl (Sees.of rfl) rfl)) rfl rfl rfl rfl) ?_
                refine scons (CStep.step (PStep.c ((by first | exact p_indexR rfl wBet7_isl24 wBet7_siz4 (Sees.of rfl) rfl (Sees.of rfl) (by rw [hfl]; omega) | exact p_indexRZ rfl wBet7_isl24 wBet7_siz4 (Sees.of rfl) rfl (Sees.of rfl) (by omega) (by rw [hfl]; omega)))) rfl rfl rfl rfl) ?_
                refine scons (CStep.step (PStep.c (p_loadE rfl wBet7_agg4 (Sees.of rfl) rfl (by rw [hfl]; omega) (fun _ => rfl))) rfl rfl rfl rfl) ?_
                refine scons (CStep.step (PStep.c (p_move (y := .val _) rfl (Sees.of rfl) rfl)) rfl rfl rfl rfl) ?_
                refine scons (CStep.guard rfl rfl rfl (fun hg0 => PStep.c (p_move (y := .val _) rfl (Sees.of rfl) rfl)) rfl rfl rfl rfl rfl) ?_
                refine scons (CStep.step (PStep.c (p_or rfl (Sees.of rfl) (Sees.of rfl) (fun h => Sees.gv' rfl (beq_of_eq h)))) rfl rfl rfl rfl) ?_
                refine scons (CStep.step (PStep.c ((by first | exact p_indexR rfl wBet7_isl24 wBet7_siz4 (Sees.of rfl) rfl (Sees.of rfl) (by rw [hfl]; omega) | exact p_indexRZ rfl wBet7_isl24 wBet7_siz4 (Sees.of rfl) rfl (Sees.of rfl) (by omega) (by rw [hfl]; omega)))) rfl rfl rfl rfl) ?_
                refine scons (r_storeE rfl wBet7_siz4 rfl rfl rfl (Sees.of rfl) rfl (by rw [hfl]; omega) (Sees.of rfl) rfl) ?_
                refine snil ?_
                refine f_nil ?_
                show AWs _ _ _ _ _
                refine f_region ?_
                refine scons (CStep.step (PStep.c (p_move (y := .val _) rfl (Sees.of rfl) rfl)) rfl rfl rfl rfl) ?_
                refine scons (CStep.step (PStep.c (p_add rfl (Sees.of rfl) (Sees.of rfl) (by omega))) rfl rfl rfl rfl) ?_
                refine scons (CStep.step (PStep.c (p_assign (y := .val _) rfl (Sees.of rfl) rfl)) rfl rfl rfl rfl) ?_
                refine snil ?_
                refine f_back ⟨v + 1, ?_, ?_, le_ofL ⟨rfl, rfl, rfl, (by rw [← Sp.fsA_step (by omega) hc2, show j = k by omega]; rfl), rfl, rfl, rfl, rfl, trivial⟩ rfl⟩
                · omega
                · omega
          · intro hc3
            try simp only [bs] at hc3
            refine f_exit ?_
            show AWs _ _ _ _ _
            refine f_nil ?_
            show AWs _ _ _ _ _
            refine f_region ?_
            refine scons (CStep.step (PStep.c (p_move (y := .val _) rfl (Sees.of rfl) rfl)) rfl rfl rfl rfl) ?_
            refine scons (CStep.step (PStep.c (p_add rfl (Sees.of rfl) (Sees.of rfl) (by omega))) rfl rfl rfl rfl) ?_
            refine scons (CStep.step (PStep.c (p_assign (y := .val _) rfl (Sees.of rfl) rfl)) rfl rfl rfl rfl) ?_
            refine snil ?_
            refine f_back ⟨w + 1, ?_, ?_, le_ofL ⟨rfl, rfl, (by rw [Sp.fsT_done k l o w (by omega)]; rfl), rfl, rfl, rfl, rfl, trivial⟩ rfl⟩
            · omega
            · omega
    · intro hc1
      try simp only [bs] at hc1
      refine f_exit ?_
      show AWs _ _ _ _ _
      refine f_seq ?_
      refine f_region ?_
      refine scons (CStep.step (PStep.c (p_move (y := .row _ _) rfl (Sees.of rfl) rfl)) rfl rfl rfl rfl) ?_
      refine scons (CStep.step (PStep.c (p_assign (y := .row _ _) rfl (Sees.of rfl) rfl)) rfl rfl rfl rfl) ?_
      refine snil ?_
      refine f_ret ?_
      refine endsN_ret (resN_eq (resN_row rfl rfl rfl rfl) ?_)
      rw [← Sp.fsT_some, show w = 2 ^ k by omega]

end Go.Um
