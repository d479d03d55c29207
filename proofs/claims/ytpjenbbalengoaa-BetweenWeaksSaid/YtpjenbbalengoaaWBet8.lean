/- Walks of Go functions of this seat, each by its contract. No condition beyond what each theorem says. -/
import Derived.Test.YtpjenbbalengoaaWBet7
import Derived.Test.YtpjenbbalengoaaProg
import Derived.KernelRfl
set_option maxRecDepth 4000
namespace Go.Um
open Go Go.RowKit

theorem wBet8_agg26 : IsAgg Go.Proofs.Try.prog 26 true := by unfold IsAgg; kernel_rfl
theorem wBet8_agg3 : IsAgg Go.Proofs.Try.prog 3 false := by unfold IsAgg; kernel_rfl
theorem wBet8_agg37 : IsAgg Go.Proofs.Try.prog 37 false := by unfold IsAgg; kernel_rfl
theorem wBet8_agg39 : IsAgg Go.Proofs.Try.prog 39 true := by unfold IsAgg; kernel_rfl
theorem wBet8_agg4 : IsAgg Go.Proofs.Try.prog 4 false := by unfold IsAgg; kernel_rfl
theorem wBet8_agg67 : IsAgg Go.Proofs.Try.prog 67 true := by unfold IsAgg; kernel_rfl
theorem wBet8_eq226 : Eq2 Go.Proofs.Try.prog 26 := ⟨_, _, Go.Proofs.Try.underlying26, by decide, by decide, rfl, rfl, Go.Proofs.Try.underlying3, Go.Proofs.Try.underlying3, by kernel_rfl, by kernel_rfl⟩
theorem wBet8_fld26_0 : IsField Go.Proofs.Try.prog 26 0 0 3 := by unfold IsField; kernel_rfl
theorem wBet8_fld39_0 : IsField Go.Proofs.Try.prog 39 0 0 3 := by unfold IsField; kernel_rfl
theorem wBet8_fld39_1 : IsField Go.Proofs.Try.prog 39 1 1 37 := by unfold IsField; kernel_rfl
theorem wBet8_isf32 : IsFn Go.Proofs.Try.prog 32 := by unfold IsFn; kernel_rfl
theorem wBet8_isf35 : IsFn Go.Proofs.Try.prog 35 := by unfold IsFn; kernel_rfl
theorem wBet8_isf36 : IsFn Go.Proofs.Try.prog 36 := by unfold IsFn; kernel_rfl
theorem wBet8_isf37 : IsFn Go.Proofs.Try.prog 37 := by unfold IsFn; kernel_rfl
theorem wBet8_isf44 : IsFn Go.Proofs.Try.prog 44 := by unfold IsFn; kernel_rfl
theorem wBet8_isf45 : IsFn Go.Proofs.Try.prog 45 := by unfold IsFn; kernel_rfl
theorem wBet8_isf46 : IsFn Go.Proofs.Try.prog 46 := by unfold IsFn; kernel_rfl
theorem wBet8_isf47 : IsFn Go.Proofs.Try.prog 47 := by unfold IsFn; kernel_rfl
theorem wBet8_isf48 : IsFn Go.Proofs.Try.prog 48 := by unfold IsFn; kernel_rfl
theorem wBet8_isl24 : IsSlice Go.Proofs.Try.prog 24 4 := by unfold IsSlice; kernel_rfl
theorem wBet8_mix : (Go.Proofs.Try.prog).follows .mixedOrders = true := by kernel_rfl
theorem wBet8_siz26 : Size Go.Proofs.Try.prog 26 2 := by unfold Size; kernel_rfl
theorem wBet8_siz3 : Size Go.Proofs.Try.prog 3 1 := by unfold Size; kernel_rfl
theorem wBet8_siz37 : Size Go.Proofs.Try.prog 37 1 := by unfold Size; kernel_rfl
theorem wBet8_siz39 : Size Go.Proofs.Try.prog 39 2 := by unfold Size; kernel_rfl
theorem wBet8_siz4 : Size Go.Proofs.Try.prog 4 1 := by unfold Size; kernel_rfl
theorem wBet8_siz67 : Size Go.Proofs.Try.prog 67 2 := by unfold Size; kernel_rfl
theorem wBet8_zer26 : Zero Go.Proofs.Try.prog 26 (.agg #[(.int .i64 0), (.int .i64 0)]) := by unfold Zero; kernel_rfl
theorem wBet8_zer67 : Zero Go.Proofs.Try.prog 67 (.agg #[(.slice none 0 0), (.int .i64 0)]) := by unfold Zero; kernel_rfl

theorem BetweenStrongs_spec (n : Int) (a : List (List Int)) (m : Int) (b : List (List Int)) :
    Spec Go.Proofs.Try.prog 13 [.val (cnf n a), .val (cnf m b)] (D.bool true) := by
  refine spec_of' Go.Proofs.Try.func13 rfl Go.Proofs.Try.ntmps13 rfl ?_
  refine f_seq ?_
  refine f_region ?_
  refine scons (r_box (ob := 10002) rfl (Sees.of rfl) rfl rfl rfl rfl rfl rfl) ?_
  refine scons (r_box (ob := 10003) rfl (Sees.of rfl) rfl rfl rfl rfl rfl rfl) ?_
  refine scons (CStep.step (PStep.c (p_assign (y := .val _) rfl (Sees.of rfl) rfl)) rfl rfl rfl rfl) ?_
  refine snil ?_
  refine f_seq ?_
  refine f_seq ?_
  refine f_region ?_
  refine scons (CStep.step (PStep.c (p_loadBS rfl wBet8_agg39 wBet8_siz39 (Sees.of rfl) rfl rfl rfl)) rfl rfl rfl rfl) ?_
  refine scons (CStep.step (PStep.c (p_loadBS rfl wBet8_agg39 wBet8_siz39 (Sees.of rfl) rfl rfl rfl)) rfl rfl rfl rfl) ?_
  refine scons (CStep.step (c_call rfl wBet8_isf32 ⟨_, _, rfl, (Sees.of rfl), rfl, ⟨_, _, rfl, (Sees.of rfl), rfl, rfl⟩⟩ (wide_spec n a m b)) rfl rfl rfl rfl) ?_
  refine snil ?_
  refine f_cond rfl ?_ ?_
  · intro hc1
    try simp only [bs] at hc1
    refine f_seq ?_
    refine f_region ?_
    refine scons (CStep.step (PStep.c (p_assign (y := .val _) rfl (Sees.of rfl) rfl)) rfl rfl rfl rfl) ?_
    refine snil ?_
    refine f_ret ?_
    refine ends_ret (res_eq (res1 rfl (res_tmp rfl (Sees.of rfl))) ?_)
    rfl
  · intro hc1
    try simp only [bs] at hc1
    refine f_skip ?_
    refine f_seq ?_
    refine f_region ?_
    refine scons (CStep.step (PStep.c (p_loadBS rfl wBet8_agg39 wBet8_siz39 (Sees.of rfl) rfl rfl rfl)) rfl rfl rfl rfl) ?_
    refine scons (CStep.step (PStep.c (p_loadBS rfl wBet8_agg39 wBet8_siz39 (Sees.of rfl) rfl rfl rfl)) rfl rfl rfl rfl) ?_
    refine scons (CStep.step (c_call rfl wBet8_isf44 ⟨_, _, rfl, (Sees.of rfl), rfl, ⟨_, _, rfl, (Sees.of rfl), rfl, rfl⟩⟩ (Strong_spec n a m b)) rfl rfl rfl rfl) ?_
    refine scons (CStep.step (PStep.c (p_move (y := .val _) rfl (Sees.of rfl) rfl)) rfl rfl rfl rfl) ?_
    refine scons (CStep.step (PStep.c (p_extract rfl (Sees.of rfl) rfl)) rfl rfl rfl rfl) ?_
    refine scons (CStep.step (PStep.c (p_extract rfl (Sees.of rfl) rfl)) rfl rfl rfl rfl) ?_
    refine scons (r_alloc (ob := 10005) rfl wBet8_zer67 rfl rfl rfl rfl rfl rfl) ?_
    refine scons (r_alloc (ob := 10006) rfl wBet8_zer26 rfl rfl rfl rfl rfl rfl) ?_
    refine scons (r_storeS rfl wBet8_siz67 rfl rfl rfl (Sees.of rfl) rfl (Sees.of rfl) rfl rfl rfl rfl) ?_
    refine scons (r_storeS rfl wBet8_siz26 rfl rfl rfl (Sees.of rfl) rfl (Sees.of rfl) rfl rfl rfl rfl) ?_
    refine snil ?_
    refine f_seq ?_
    refine f_region ?_
    refine scons (CStep.step (PStep.c (p_loadBS rfl wBet8_agg39 wBet8_siz39 (Sees.of rfl) rfl rfl rfl)) rfl rfl rfl rfl) ?_
    refine scons (CStep.step (PStep.c (p_loadBS rfl wBet8_agg39 wBet8_siz39 (Sees.of rfl) rfl rfl rfl)) rfl rfl rfl rfl) ?_
    refine scons (CStep.step (c_call rfl wBet8_isf45 ⟨_, _, rfl, (Sees.of rfl), rfl, ⟨_, _, rfl, (Sees.of rfl), rfl, rfl⟩⟩ (apartL_spec n a m b)) rfl rfl rfl rfl) ?_
    refine scons (r_alloc (ob := 10007) rfl wBet8_zer26 rfl rfl rfl rfl rfl rfl) ?_
    refine scons (r_storeS rfl wBet8_siz26 rfl rfl rfl (Sees.of rfl) rfl (Sees.of rfl) rfl rfl rfl rfl) ?_
    refine snil ?_
    refine f_seq ?_
    refine f_seq ?_
    refine f_region ?_
    refine scons (CStep.step (PStep.c (p_fieldRef rfl wBet8_fld26_0 wBet8_siz3 rfl (Sees.of rfl) rfl)) rfl rfl rfl rfl) ?_
    refine scons (CStep.step (PStep.c (p_loadB (y := .val _) rfl wBet8_agg3 (Sees.of rfl) rfl rfl rfl rfl)) rfl rfl rfl rfl) ?_
    refine scons (CStep.step (PStep.c (p_neq rfl (Sees.of rfl) (Sees.of rfl))) rfl rfl rfl rfl) ?_
    refine snil ?_
    refine f_cond rfl ?_ ?_
    · intro hc2
      try simp only [bs] at hc2
      refine f_seq ?_
      refine f_region ?_
      refine scons (CStep.step (PStep.c (p_loadBS rfl wBet8_agg26 wBet8_siz26 (Sees.of rfl) rfl rfl rfl)) rfl rfl rfl rfl) ?_
      refine scons (CStep.step (PStep.c (p_loadBS rfl wBet8_agg26 wBet8_siz26 (Sees.of rfl) rfl rfl rfl)) rfl rfl rfl rfl) ?_
      refine scons (CStep.step (PStep.c (p_eqlS2 rfl wBet8_eq226 (Sees.of rfl) (Sees.of rfl))) rfl rfl rfl rfl) ?_
      refine scons (CStep.step (PStep.c (p_move (y := .val _) rfl (Sees.of rfl) rfl)) rfl rfl rfl rfl) ?_
      refine scons (CStep.guard rfl rfl rfl (fun hg0 => PStep.c (p_loadBS rfl wBet8_agg67 wBet8_siz67 (Sees.of rfl) rfl rfl rfl)) rfl rfl rfl rfl rfl) ?_
      refine scons (CStep.guard rfl rfl rfl (fun hg0 => c_call rfl wBet8_isf35 ⟨_, _, rfl, (Sees.gv' rfl hg0), rfl, rfl⟩ (DiaNone_spec _ _)) rfl rfl rfl rfl rfl) ?_
      refine scons (CStep.step (PStep.c (p_and rfl (Sees.of rfl) (fun h => Sees.gv' rfl (beq_of_eq h)) (Sees.of rfl))) rfl rfl rfl rfl) ?_
      refine scons (CStep.step (PStep.c (p_move (y := .val _) rfl (Sees.of rfl) rfl)) rfl rfl rfl rfl) ?_
      refine scons (CStep.guard rfl rfl rfl (fun hg0 => c_call rfl wBet8_isf36 rfl (betweenSure_spec)) rfl rfl rfl rfl rfl) ?_
      refine scons (CStep.step (PStep.c (p_and rfl (Sees.of rfl) (fun h => Sees.gv' rfl (beq_of_eq h)) (Sees.of rfl))) rfl rfl rfl rfl) ?_
      refine scons (CStep.step (PStep.c (p_assign (y := .val _) rfl (Sees.of rfl) rfl)) rfl rfl rfl rfl) ?_
      refine snil ?_
      refine f_ret ?_
      refine ends_ret (res_eq (res1 rfl (res_tmp rfl (Sees.of rfl))) ?_)
      rw [Sp.strO, if_pos hc2]
      simp
    · intro hc2
      try simp only [bs] at hc2
      obtain ⟨k, rfl, rfl, hk, hca, hcb, hlab⟩ := Sp.bet_ok (Sp.ap_ok hc2)
      have hk8 : k ≤ 8 := by omega
      have hga := (Sp.check_use hca).1
      have hgb := (Sp.check_use hcb).1
      have hp16 := Sp.pow16 (n := k) (by omega)
      refine f_skip ?_
      refine f_seq ?_
      refine f_draw wBet8_mix (by kernel_rfl) ?_
      refine dcons (CStep.step (PStep.c (p_loadBS rfl wBet8_agg26 wBet8_siz26 (Sees.of rfl) rfl rfl rfl)) rfl rfl rfl rfl) ?_
      refine dcons (CStep.step (PStep.c (p_loadBS rfl wBet8_agg26 wBet8_siz26 (Sees.of rfl) rfl rfl rfl)) rfl rfl rfl rfl) ?_
      refine dcons (CStep.step (PStep.c (p_eqlS2 rfl wBet8_eq226 (Sees.of rfl) (Sees.of rfl))) rfl rfl rfl rfl) ?_
      refine dcons (CStep.step (PStep.c (p_move (y := .val _) rfl (Sees.of rfl) rfl)) rfl rfl rfl rfl) ?_
      refine dcons (CStep.guard rfl rfl rfl (fun hg0 => PStep.c (p_loadBS rfl wBet8_agg67 wBet8_siz67 (Sees.of rfl) rfl rfl rfl)) rfl rfl rfl rfl rfl) ?_
      refine dcons (CStep.guard rfl rfl rfl (fun hg0 => PStep.c (p_fieldRef rfl wBet8_fld39_0 wBet8_siz3 rfl (Sees.of rfl) rfl)) rfl rfl rfl rfl rfl) ?_
      refine dcons (CStep.guard rfl rfl rfl (fun hg0 => PStep.c (p_loadB (y := .val _) rfl wBet8_agg3 (Sees.gv' rfl hg0) rfl rfl rfl rfl)) rfl rfl rfl rfl rfl) ?_
      refine dcons (CStep.guard rfl rfl rfl (fun hg0 => PStep.c (p_fieldRef rfl wBet8_fld39_1 wBet8_siz37 rfl (Sees.of rfl) rfl)) rfl rfl rfl rfl rfl) ?_
      refine dcons (CStep.guard rfl rfl rfl (fun hg0 => PStep.c (p_loadB (y := .val _) rfl wBet8_agg37 (Sees.gv' rfl hg0) rfl rfl rfl rfl)) rfl rfl rfl rfl rfl) ?_
      refine dcons (CStep.guard rfl rfl rfl (fun hg0 => PStep.c (p_fieldRef rfl wBet8_fld39_1 wBet8_siz37 rfl (Sees.of rfl) rfl)) rfl rfl rfl rfl rfl) ?_
      refine dcons (CStep.guard rfl rfl rfl (fun hg0 => PStep.c (p_loadB (y := .val _) rfl wBet8_agg37 (Sees.gv' rfl hg0) rfl rfl rfl rfl)) rfl rfl rfl rfl rfl) ?_
      refine dcons (CStep.guard rfl rfl rfl (fun hg0 => c_call rfl wBet8_isf47 ⟨_, _, rfl, (Sees.gv' rfl hg0), rfl, ⟨_, _, rfl, (Sees.gv' rfl hg0), rfl, ⟨_, _, rfl, (Sees.gv' rfl hg0), rfl, rfl⟩⟩⟩ ((forSome_spec k a b hk8 hga).spec false)) rfl rfl rfl rfl rfl) ?_
      refine dcons (CStep.guard rfl rfl rfl (fun hg0 => by have hp0 := hg0; (try simp only [bs] at hp0); exact c_call rfl wBet8_isf46 ⟨_, _, rfl, (Sees.gv' rfl hg0), rfl, rfl⟩ (DiaOf_spec k (Sp.dtab (Sp.someT b (fun x => Sp.all x a) k) k) (by omega) (Sp.dtab_len _ _))) rfl rfl rfl rfl rfl) ?_
      refine dcons (CStep.guard rfl rfl rfl (fun hg0 => c_call rfl wBet8_isf37 ⟨_, _, rfl, (Sees.gv' rfl hg0), rfl, ⟨_, _, rfl, (Sees.gv' rfl hg0), rfl, rfl⟩⟩ (DiaSame_spec _ _ _ _)) rfl rfl rfl rfl rfl) ?_
      refine dcons (CStep.step (PStep.c (p_and rfl (Sees.of rfl) (fun h => Sees.gv' rfl (beq_of_eq h)) (Sees.of rfl))) rfl rfl rfl rfl) ?_
      refine dcons (CStep.step (PStep.c (p_move (y := .val _) rfl (Sees.of rfl) rfl)) rfl rfl rfl rfl) ?_
      refine dcons (CStep.guard rfl rfl rfl (fun hg0 => c_call rfl wBet8_isf36 rfl (betweenSure_spec)) rfl rfl rfl rfl rfl) ?_
      refine dcons (CStep.step (PStep.c (p_and rfl (Sees.of rfl) (fun h => Sees.gv' rfl (beq_of_eq h)) (Sees.of rfl))) rfl rfl rfl rfl) ?_
      refine dcons (CStep.step (PStep.c (p_assign (y := .val _) rfl (Sees.of rfl) rfl)) rfl rfl rfl rfl) ?_
      refine dnil (by kernel_rfl) ?_
      refine f_ret ?_
      refine ends_ret (res_eq (res1 rfl (res_tmp rfl (Sees.of rfl))) ?_)
      rw [Sp.strO, if_neg (fun h => h hc2), Int.toNat_natCast, Sp.built_few hk8, Sp.ap_zero hc2]
      simp

theorem BetweenWeaks_spec (n : Int) (a : List (List Int)) (m : Int) (b : List (List Int)) :
    Spec Go.Proofs.Try.prog 14 [.val (cnf n a), .val (cnf m b)] (D.bool true) := by
  refine spec_of' Go.Proofs.Try.func14 rfl Go.Proofs.Try.ntmps14 rfl ?_
  refine f_seq ?_
  refine f_region ?_
  refine scons (r_box (ob := 10002) rfl (Sees.of rfl) rfl rfl rfl rfl rfl rfl) ?_
  refine scons (r_box (ob := 10003) rfl (Sees.of rfl) rfl rfl rfl rfl rfl rfl) ?_
  refine scons (CStep.step (PStep.c (p_assign (y := .val _) rfl (Sees.of rfl) rfl)) rfl rfl rfl rfl) ?_
  refine snil ?_
  refine f_seq ?_
  refine f_seq ?_
  refine f_region ?_
  refine scons (CStep.step (PStep.c (p_loadBS rfl wBet8_agg39 wBet8_siz39 (Sees.of rfl) rfl rfl rfl)) rfl rfl rfl rfl) ?_
  refine scons (CStep.step (PStep.c (p_loadBS rfl wBet8_agg39 wBet8_siz39 (Sees.of rfl) rfl rfl rfl)) rfl rfl rfl rfl) ?_
  refine scons (CStep.step (c_call rfl wBet8_isf32 ⟨_, _, rfl, (Sees.of rfl), rfl, ⟨_, _, rfl, (Sees.of rfl), rfl, rfl⟩⟩ (wide_spec n a m b)) rfl rfl rfl rfl) ?_
  refine snil ?_
  refine f_cond rfl ?_ ?_
  · intro hc1
    try simp only [bs] at hc1
    refine f_seq ?_
    refine f_region ?_
    refine scons (CStep.step (PStep.c (p_assign (y := .val _) rfl (Sees.of rfl) rfl)) rfl rfl rfl rfl) ?_
    refine snil ?_
    refine f_ret ?_
    refine ends_ret (res_eq (res1 rfl (res_tmp rfl (Sees.of rfl))) ?_)
    rfl
  · intro hc1
    try simp only [bs] at hc1
    refine f_skip ?_
    refine f_seq ?_
    refine f_region ?_
    refine scons (CStep.step (PStep.c (p_loadBS rfl wBet8_agg39 wBet8_siz39 (Sees.of rfl) rfl rfl rfl)) rfl rfl rfl rfl) ?_
    refine scons (CStep.step (PStep.c (p_loadBS rfl wBet8_agg39 wBet8_siz39 (Sees.of rfl) rfl rfl rfl)) rfl rfl rfl rfl) ?_
    refine scons (CStep.step (c_call rfl wBet8_isf48 ⟨_, _, rfl, (Sees.of rfl), rfl, ⟨_, _, rfl, (Sees.of rfl), rfl, rfl⟩⟩ (Weak_spec n a m b)) rfl rfl rfl rfl) ?_
    refine scons (CStep.step (PStep.c (p_move (y := .val _) rfl (Sees.of rfl) rfl)) rfl rfl rfl rfl) ?_
    refine scons (CStep.step (PStep.c (p_extract rfl (Sees.of rfl) rfl)) rfl rfl rfl rfl) ?_
    refine scons (CStep.step (PStep.c (p_extract rfl (Sees.of rfl) rfl)) rfl rfl rfl rfl) ?_
    refine scons (r_alloc (ob := 10005) rfl wBet8_zer67 rfl rfl rfl rfl rfl rfl) ?_
    refine scons (r_alloc (ob := 10006) rfl wBet8_zer26 rfl rfl rfl rfl rfl rfl) ?_
    refine scons (r_storeS rfl wBet8_siz67 rfl rfl rfl (Sees.of rfl) rfl (Sees.of rfl) rfl rfl rfl rfl) ?_
    refine scons (r_storeS rfl wBet8_siz26 rfl rfl rfl (Sees.of rfl) rfl (Sees.of rfl) rfl rfl rfl rfl) ?_
    refine snil ?_
    refine f_seq ?_
    refine f_region ?_
    refine scons (CStep.step (PStep.c (p_loadBS rfl wBet8_agg39 wBet8_siz39 (Sees.of rfl) rfl rfl rfl)) rfl rfl rfl rfl) ?_
    refine scons (CStep.step (PStep.c (p_loadBS rfl wBet8_agg39 wBet8_siz39 (Sees.of rfl) rfl rfl rfl)) rfl rfl rfl rfl) ?_
    refine scons (CStep.step (c_call rfl wBet8_isf45 ⟨_, _, rfl, (Sees.of rfl), rfl, ⟨_, _, rfl, (Sees.of rfl), rfl, rfl⟩⟩ (apartL_spec n a m b)) rfl rfl rfl rfl) ?_
    refine scons (r_alloc (ob := 10007) rfl wBet8_zer26 rfl rfl rfl rfl rfl rfl) ?_
    refine scons (r_storeS rfl wBet8_siz26 rfl rfl rfl (Sees.of rfl) rfl (Sees.of rfl) rfl rfl rfl rfl) ?_
    refine snil ?_
    refine f_seq ?_
    refine f_seq ?_
    refine f_region ?_
    refine scons (CStep.step (PStep.c (p_fieldRef rfl wBet8_fld26_0 wBet8_siz3 rfl (Sees.of rfl) rfl)) rfl rfl rfl rfl) ?_
    refine scons (CStep.step (PStep.c (p_loadB (y := .val _) rfl wBet8_agg3 (Sees.of rfl) rfl rfl rfl rfl)) rfl rfl rfl rfl) ?_
    refine scons (CStep.step (PStep.c (p_neq rfl (Sees.of rfl) (Sees.of rfl))) rfl rfl rfl rfl) ?_
    refine snil ?_
    refine f_cond rfl ?_ ?_
    · intro hc2
      try simp only [bs] at hc2
      refine f_seq ?_
      refine f_region ?_
      refine scons (CStep.step (PStep.c (p_loadBS rfl wBet8_agg26 wBet8_siz26 (Sees.of rfl) rfl rfl rfl)) rfl rfl rfl rfl) ?_
      refine scons (CStep.step (PStep.c (p_loadBS rfl wBet8_agg26 wBet8_siz26 (Sees.of rfl) rfl rfl rfl)) rfl rfl rfl rfl) ?_
      refine scons (CStep.step (PStep.c (p_eqlS2 rfl wBet8_eq226 (Sees.of rfl) (Sees.of rfl))) rfl rfl rfl rfl) ?_
      refine scons (CStep.step (PStep.c (p_move (y := .val _) rfl (Sees.of rfl) rfl)) rfl rfl rfl rfl) ?_
      refine scons (CStep.guard rfl rfl rfl (fun hg0 => PStep.c (p_loadBS rfl wBet8_agg67 wBet8_siz67 (Sees.of rfl) rfl rfl rfl)) rfl rfl rfl rfl rfl) ?_
      refine scons (CStep.guard rfl rfl rfl (fun hg0 => c_call rfl wBet8_isf35 ⟨_, _, rfl, (Sees.gv' rfl hg0), rfl, rfl⟩ (DiaNone_spec _ _)) rfl rfl rfl rfl rfl) ?_
      refine scons (CStep.step (PStep.c (p_and rfl (Sees.of rfl) (fun h => Sees.gv' rfl (beq_of_eq h)) (Sees.of rfl))) rfl rfl rfl rfl) ?_
      refine scons (CStep.step (PStep.c (p_move (y := .val _) rfl (Sees.of rfl) rfl)) rfl rfl rfl rfl) ?_
      refine scons (CStep.guard rfl rfl rfl (fun hg0 => c_call rfl wBet8_isf36 rfl (betweenSure_spec)) rfl rfl rfl rfl rfl) ?_
      refine scons (CStep.step (PStep.c (p_and rfl (Sees.of rfl) (fun h => Sees.gv' rfl (beq_of_eq h)) (Sees.of rfl))) rfl rfl rfl rfl) ?_
      refine scons (CStep.step (PStep.c (p_assign (y := .val _) rfl (Sees.of rfl) rfl)) rfl rfl rfl rfl) ?_
      refine snil ?_
      refine f_ret ?_
      refine ends_ret (res_eq (res1 rfl (res_tmp rfl (Sees.of rfl))) ?_)
      rw [Sp.weaO, if_pos hc2]
      simp
    · intro hc2
      try simp only [bs] at hc2
      obtain ⟨k, rfl, rfl, hk, hca, hcb, hlab⟩ := Sp.bet_ok (Sp.ap_ok hc2)
      have hk8 : k ≤ 8 := by omega
      have hga := (Sp.check_use hca).1
      have hgb := (Sp.check_use hcb).1
      have hp16 := Sp.pow16 (n := k) (by omega)
      refine f_skip ?_
      refine f_seq ?_
      refine f_region ?_
      refine scons (CStep.step (PStep.c (p_fieldRef rfl wBet8_fld39_0 wBet8_siz3 rfl (Sees.of rfl) rfl)) rfl rfl rfl rfl) ?_
      refine scons (CStep.step (PStep.c (p_loadB (y := .val _) rfl wBet8_agg3 (Sees.of rfl) rfl rfl rfl rfl)) rfl rfl rfl rfl) ?_
      refine scons (CStep.step (PStep.c (p_fieldRef rfl wBet8_fld39_1 wBet8_siz37 rfl (Sees.of rfl) rfl)) rfl rfl rfl rfl) ?_
      refine scons (CStep.step (PStep.c (p_loadB (y := .val _) rfl wBet8_agg37 (Sees.of rfl) rfl rfl rfl rfl)) rfl rfl rfl rfl) ?_
      refine scons (CStep.step (PStep.c (p_fieldRef rfl wBet8_fld39_1 wBet8_siz37 rfl (Sees.of rfl) rfl)) rfl rfl rfl rfl) ?_
      refine scons (CStep.step (PStep.c (p_loadB (y := .val _) rfl wBet8_agg37 (Sees.of rfl) rfl rfl rfl rfl)) rfl rfl rfl rfl) ?_
      refine scons (r_callS (q := false) (ob := 30000) false rfl wBet8_isf47 (forSome_spec k b a hk8 hgb) (sa_cons (sh_of (Sees.of rfl) rfl) (sa_cons (sh_of (Sees.of rfl) rfl) (sa_cons (sh_of (Sees.of rfl) rfl) (sa_nil)))) (.inl rfl) rfl rfl rfl rfl rfl) ?_
      refine scons (CStep.step (PStep.c (p_assign (y := .row _ _) rfl (Sees.of rfl) rfl)) rfl rfl rfl rfl) ?_
      refine snil ?_
      refine f_seq ?_
      refine f_seq ?_
      refine f_region ?_
      refine scons (CStep.step (PStep.c (p_assign (y := .val _) rfl (Sees.of rfl) rfl)) rfl rfl rfl rfl) ?_
      refine snil ?_
      refine f_block ?_
      refine f_loop (α := Nat) (fun i => i ≤ 2 ^ k) (fun i => [(9, iv i), (8, .row 30000 0), (30000, .arr 0 4 1 1 D.bool false (Sp.fillTo (2 ^ k) (fun j : Nat => (Sp.someT a (fun x => Sp.all x b) k) (Sp.bits k j)) (fun j : Nat => !(Sp.someT a (fun x => Sp.all x b) k) (Sp.bits k j)) i)), (5, .ref 10005 0 0), (10005, .box 0 (.ccons (.val (chos (Sp.weaO k a k b).1)) (.ccons (iv (Sp.weaO k a k b).2.1) .cnil))), (6, .ref 10006 0 0), (10006, .box 0 (.ccons (iv (Sp.weaO k a k b).2.2.1) (.ccons (iv (Sp.weaO k a k b).2.2.2) .cnil))), (7, .ref 10007 0 0), (10007, .box 0 (.ccons (iv (Sp.apW k a k b).1) (.ccons (iv (Sp.apW k a k b).2) .cnil))), (4, bv false)]) (fun i => 2 ^ k - i) 0 ?_ ?_ ?_
      · exact Nat.zero_le _
      · exact le_ofL ⟨rfl, rfl, (by rw [Sp.fill_zero]; rfl), rfl, rfl, rfl, rfl, rfl, rfl, rfl, trivial⟩ rfl
      · rintro i hi
        have hi : i ≤ 2 ^ k := hi
        have hfl := Sp.fill_len (2 ^ k) (fun j : Nat => (Sp.someT a (fun x => Sp.all x b) k) (Sp.bits k j)) (fun j : Nat => !(Sp.someT a (fun x => Sp.all x b) k) (Sp.bits k j)) i
        refine f_seq ?_
        refine f_seq ?_
        refine f_region ?_
        refine scons (CStep.step (PStep.c (p_move (y := .val _) rfl (Sees.of rfl) rfl)) rfl rfl rfl rfl) ?_
        refine scons (CStep.step (PStep.c (p_move (y := .row _ _) rfl (Sees.of rfl) rfl)) rfl rfl rfl rfl) ?_
        refine scons (CStep.step (PStep.c (p_lenR rfl wBet8_isl24 (Sees.of rfl) rfl)) rfl rfl rfl rfl) ?_
        refine scons (CStep.step (PStep.c (p_lss rfl (Sees.of rfl) (Sees.of rfl))) rfl rfl rfl rfl) ?_
        refine snil ?_
        refine f_cond rfl ?_ ?_
        · intro hc3
          try simp only [bs] at hc3
          refine f_skip ?_
          refine f_seq ?_
          refine f_block ?_
          refine f_region ?_
          refine scons (CStep.step (PStep.c (p_move (y := .row _ _) rfl (Sees.of rfl) rfl)) rfl rfl rfl rfl) ?_
          refine scons (CStep.step (PStep.c (p_move (y := .val _) rfl (Sees.of rfl) rfl)) rfl rfl rfl rfl) ?_
          refine scons (CStep.step (PStep.c (p_move (y := .row _ _) rfl (Sees.of rfl) rfl)) rfl rfl rfl rfl) ?_
          refine scons (CStep.step (PStep.c (p_move (y := .val _) rfl (Sees.of rfl) rfl)) rfl rfl rfl rfl) ?_
          refine scons (CStep.step (PStep.c ((by first | exact p_indexR rfl wBet8_isl24 wBet8_siz4 (Sees.of rfl) rfl (Sees.of rfl) (by rw [hfl]; omega) | exact p_indexRZ rfl wBet8_isl24 wBet8_siz4 (Sees.of rfl) rfl (Sees.of rfl) (by omega) (by rw [hfl]; omega)))) rfl rfl rfl rfl) ?_
          refine scons (CStep.step (PStep.c (p_loadE rfl wBet8_agg4 (Sees.of rfl) rfl (by rw [hfl]; omega) (fun _ => rfl))) rfl rfl rfl rfl) ?_
          refine scons (CStep.step (PStep.c (p_not rfl (Sees.of rfl))) rfl rfl rfl rfl) ?_
          refine scons (CStep.step (PStep.c ((by first | exact p_indexR rfl wBet8_isl24 wBet8_siz4 (Sees.of rfl) rfl (Sees.of rfl) (by rw [hfl]; omega) | exact p_indexRZ rfl wBet8_isl24 wBet8_siz4 (Sees.of rfl) rfl (Sees.of rfl) (by omega) (by rw [hfl]; omega)))) rfl rfl rfl rfl) ?_
          refine scons (r_storeE rfl wBet8_siz4 rfl rfl rfl (Sees.of rfl) rfl (by rw [hfl]; omega) (Sees.of rfl) rfl) ?_
          refine snil ?_
          refine f_nil ?_
          show AWs _ _ _ _ _
          refine f_region ?_
          refine scons (CStep.step (PStep.c (p_move (y := .val _) rfl (Sees.of rfl) rfl)) rfl rfl rfl rfl) ?_
          refine scons (CStep.step (PStep.c (p_add rfl (Sees.of rfl) (Sees.of rfl) (by omega))) rfl rfl rfl rfl) ?_
          refine scons (CStep.step (PStep.c (p_assign (y := .val _) rfl (Sees.of rfl) rfl)) rfl rfl rfl rfl) ?_
          refine snil ?_
          refine f_back ⟨i + 1, ?_, ?_, le_ofL ⟨rfl, rfl, (by rw [← Sp.fill_step (f := (fun j : Nat => (Sp.someT a (fun x => Sp.all x b) k) (Sp.bits k j))) (g := (fun j : Nat => !(Sp.someT a (fun x => Sp.all x b) k) (Sp.bits k j))) (z := false) (h := fun x => !x) (by omega) rfl]; rfl), rfl, rfl, rfl, rfl, rfl, rfl, rfl, trivial⟩ rfl⟩
          · omega
          · omega
        · intro hc3
          try simp only [bs] at hc3
          refine f_exit ?_
          show AWs _ _ _ _ _
          refine f_seq ?_
          refine f_le (GLe.le (g_freeze (k := 8) (o1 := 30000) rfl rfl rfl rfl)) ?_ (by simp)
          refine f_draw wBet8_mix (by kernel_rfl) ?_
          refine dcons (CStep.step (PStep.c (p_loadBS rfl wBet8_agg26 wBet8_siz26 (Sees.of rfl) rfl rfl rfl)) rfl rfl rfl rfl) ?_
          refine dcons (CStep.step (PStep.c (p_loadBS rfl wBet8_agg26 wBet8_siz26 (Sees.of rfl) rfl rfl rfl)) rfl rfl rfl rfl) ?_
          refine dcons (CStep.step (PStep.c (p_eqlS2 rfl wBet8_eq226 (Sees.of rfl) (Sees.of rfl))) rfl rfl rfl rfl) ?_
          refine dcons (CStep.step (PStep.c (p_move (y := .val _) rfl (Sees.of rfl) rfl)) rfl rfl rfl rfl) ?_
          refine dcons (CStep.guard rfl rfl rfl (fun hg0 => PStep.c (p_loadBS rfl wBet8_agg67 wBet8_siz67 (Sees.of rfl) rfl rfl rfl)) rfl rfl rfl rfl rfl) ?_
          refine dcons (CStep.guard rfl rfl rfl (fun hg0 => PStep.c (p_move (y := .val _) rfl (Sees.of rfl) rfl)) rfl rfl rfl rfl rfl) ?_
          refine dcons (CStep.guard rfl rfl rfl (fun hg0 => by have hp0 := hg0; (try simp only [bs] at hp0); exact c_call rfl wBet8_isf46 ⟨_, _, rfl, (Sees.gv' rfl hg0), rfl, rfl⟩ (DiaOf_spec k (Sp.fillTo (2 ^ k) (fun j : Nat => (Sp.someT a (fun x => Sp.all x b) k) (Sp.bits k j)) (fun j : Nat => !(Sp.someT a (fun x => Sp.all x b) k) (Sp.bits k j)) i) (by omega) (Sp.fill_len _ _ _ _))) rfl rfl rfl rfl rfl) ?_
          refine dcons (CStep.guard rfl rfl rfl (fun hg0 => c_call rfl wBet8_isf37 ⟨_, _, rfl, (Sees.gv' rfl hg0), rfl, ⟨_, _, rfl, (Sees.gv' rfl hg0), rfl, rfl⟩⟩ (DiaSame_spec _ _ _ _)) rfl rfl rfl rfl rfl) ?_
          refine dcons (CStep.step (PStep.c (p_and rfl (Sees.of rfl) (fun h => Sees.gv' rfl (beq_of_eq h)) (Sees.of rfl))) rfl rfl rfl rfl) ?_
          refine dcons (CStep.step (PStep.c (p_move (y := .val _) rfl (Sees.of rfl) rfl)) rfl rfl rfl rfl) ?_
          refine dcons (CStep.guard rfl rfl rfl (fun hg0 => c_call rfl wBet8_isf36 rfl (betweenSure_spec)) rfl rfl rfl rfl rfl) ?_
          refine dcons (CStep.step (PStep.c (p_and rfl (Sees.of rfl) (fun h => Sees.gv' rfl (beq_of_eq h)) (Sees.of rfl))) rfl rfl rfl rfl) ?_
          refine dcons (CStep.step (PStep.c (p_assign (y := .val _) rfl (Sees.of rfl) rfl)) rfl rfl rfl rfl) ?_
          refine dnil (by kernel_rfl) ?_
          refine f_ret ?_
          refine ends_ret (res_eq (res1 rfl (res_tmp rfl (Sees.of rfl))) ?_)
          have e3 : (Sp.fillTo (2 ^ k) (fun j : Nat => (Sp.someT a (fun x => Sp.all x b) k) (Sp.bits k j)) (fun j : Nat => !(Sp.someT a (fun x => Sp.all x b) k) (Sp.bits k j)) i) = Sp.dtab (fun x => !(Sp.someT a (fun x => Sp.all x b) k) x) k := Sp.fill_end _ _ (by omega)
          rw [e3, Sp.weaO, if_neg (fun h => h hc2), Int.toNat_natCast, Sp.built_few hk8, Sp.ap_zero hc2]
          simp

end Go.Um
