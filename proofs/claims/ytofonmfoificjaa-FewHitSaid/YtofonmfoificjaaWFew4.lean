/- Walks of Go functions of this seat, each by its contract. No condition beyond what each theorem says. -/
import Derived.Test.YtofonmfoificjaaWFew2
import Derived.Test.YtofonmfoificjaaProg
import Derived.KernelRfl
set_option maxRecDepth 4000
namespace Go.Um
open Go Go.RowKit

theorem wFew4_agg22 : IsAgg Go.Proofs.Try.prog 22 false := by unfold IsAgg; kernel_rfl
theorem wFew4_agg24 : IsAgg Go.Proofs.Try.prog 24 true := by unfold IsAgg; kernel_rfl
theorem wFew4_agg28 : IsAgg Go.Proofs.Try.prog 28 true := by unfold IsAgg; kernel_rfl
theorem wFew4_agg3 : IsAgg Go.Proofs.Try.prog 3 false := by unfold IsAgg; kernel_rfl
theorem wFew4_eq228 : Eq2 Go.Proofs.Try.prog 28 := ⟨_, _, Go.Proofs.Try.underlying28, by decide, by decide, rfl, rfl, Go.Proofs.Try.underlying3, Go.Proofs.Try.underlying3, by kernel_rfl, by kernel_rfl⟩
theorem wFew4_fld24_0 : IsField Go.Proofs.Try.prog 24 0 0 3 := by unfold IsField; kernel_rfl
theorem wFew4_fld24_1 : IsField Go.Proofs.Try.prog 24 1 1 22 := by unfold IsField; kernel_rfl
theorem wFew4_fld28_0 : IsField Go.Proofs.Try.prog 28 0 0 3 := by unfold IsField; kernel_rfl
theorem wFew4_isf34 : IsFn Go.Proofs.Try.prog 34 := by unfold IsFn; kernel_rfl
theorem wFew4_isf35 : IsFn Go.Proofs.Try.prog 35 := by unfold IsFn; kernel_rfl
theorem wFew4_isf36 : IsFn Go.Proofs.Try.prog 36 := by unfold IsFn; kernel_rfl
theorem wFew4_isf37 : IsFn Go.Proofs.Try.prog 37 := by unfold IsFn; kernel_rfl
theorem wFew4_isf38 : IsFn Go.Proofs.Try.prog 38 := by unfold IsFn; kernel_rfl
theorem wFew4_isf39 : IsFn Go.Proofs.Try.prog 39 := by unfold IsFn; kernel_rfl
theorem wFew4_isf40 : IsFn Go.Proofs.Try.prog 40 := by unfold IsFn; kernel_rfl
theorem wFew4_isf41 : IsFn Go.Proofs.Try.prog 41 := by unfold IsFn; kernel_rfl
theorem wFew4_isf42 : IsFn Go.Proofs.Try.prog 42 := by unfold IsFn; kernel_rfl
theorem wFew4_isl22 : IsSlice Go.Proofs.Try.prog 22 25 := by unfold IsSlice; kernel_rfl
theorem wFew4_isl25 : IsSlice Go.Proofs.Try.prog 25 3 := by unfold IsSlice; kernel_rfl
theorem wFew4_plc24 : Places Go.Proofs.Try.prog 24 [(0, 1), (1, 1)] := by unfold Places; kernel_rfl
theorem wFew4_plc28 : Places Go.Proofs.Try.prog 28 [(0, 1), (1, 1)] := by unfold Places; kernel_rfl
theorem wFew4_siz22 : Size Go.Proofs.Try.prog 22 1 := by unfold Size; kernel_rfl
theorem wFew4_siz24 : Size Go.Proofs.Try.prog 24 2 := by unfold Size; kernel_rfl
theorem wFew4_siz25 : Size Go.Proofs.Try.prog 25 1 := by unfold Size; kernel_rfl
theorem wFew4_siz28 : Size Go.Proofs.Try.prog 28 2 := by unfold Size; kernel_rfl
theorem wFew4_siz3 : Size Go.Proofs.Try.prog 3 1 := by unfold Size; kernel_rfl
def wFew4_z24 : D := .cons (.int .i64 0) (.cons (intss []) (.nil))
theorem wFew4_zch24 : ∀ (ok : Nat → Prop) (w : World), R Go.Proofs.Try.prog wFew4_z24 ok w (Value.cells (.agg #[(.int .i64 0), (.slice none 0 0)])).toList := fun _ _ => z_int (z_list (z_nil))
def wFew4_z28 : D := .cons (.int .i64 0) (.cons (.int .i64 0) (.nil))
theorem wFew4_zch28 : ∀ (ok : Nat → Prop) (w : World), R Go.Proofs.Try.prog wFew4_z28 ok w (Value.cells (.agg #[(.int .i64 0), (.int .i64 0)])).toList := fun _ _ => z_int (z_int (z_nil))
theorem wFew4_zer24 : Zero Go.Proofs.Try.prog 24 (.agg #[(.int .i64 0), (.slice none 0 0)]) := by unfold Zero; kernel_rfl
theorem wFew4_zer25 : Zero Go.Proofs.Try.prog 25 (.slice none 0 0) := by unfold Zero; kernel_rfl
theorem wFew4_zer28 : Zero Go.Proofs.Try.prog 28 (.agg #[(.int .i64 0), (.int .i64 0)]) := by unfold Zero; kernel_rfl
theorem wFew4_zer3 : Zero Go.Proofs.Try.prog 3 (.int .i64 0) := by unfold Zero; kernel_rfl

theorem someG_spec (n : Int) (ls : List (List Int)) (h : (Sp.tryV n ls).1 = 0) : Spec Go.Proofs.Try.prog 38 [iv n, .val (intss ls)] (di (Sp.someOf n.toNat ls)) := by
  have htk := Sp.tryV_ok h
  obtain ⟨m, rfl⟩ : ∃ m : Nat, n = (m : Int) := ⟨n.toNat, by omega⟩
  have hck := Sp.check_use (m := m) htk.1
  have hll := (Sp.check_ok htk.1).2.1
  have h16 : m ≤ 16 := by omega
  exact some_spec m ls h16 hck.1
theorem coreG_spec (n : Int) (ls : List (List Int)) (h : (Sp.tryV n ls).1 = 0) : Spec Go.Proofs.Try.prog 41 [.val (cnf n ls)] (ints (Sp.coreTo n.toNat ls ls.length)) := by
  have htk := Sp.tryV_ok h
  obtain ⟨m, rfl⟩ : ∃ m : Nat, n = (m : Int) := ⟨n.toNat, by omega⟩
  have hck := Sp.check_use (m := m) htk.1
  have hll := (Sp.check_ok htk.1).2.1
  have h16 : m ≤ 16 := by omega
  exact coreR_spec m ls h16 hll hck.1
theorem crowd_spec (n : Int) (ls : List (List Int)) :
    Spec Go.Proofs.Try.prog 35 [.val (cnf n ls)] (D.bool (Sp.crowdB n ls)) := by
  refine spec_of' Go.Proofs.Try.func35 rfl Go.Proofs.Try.ntmps35 rfl ?_
  refine f_seq ?_
  refine f_region ?_
  refine scons (r_box (ob := 10001) rfl (Sees.of rfl) rfl rfl rfl rfl rfl rfl) ?_
  refine scons (CStep.step (PStep.c (p_assign (y := .val _) rfl (Sees.of rfl) rfl)) rfl rfl rfl rfl) ?_
  refine snil ?_
  refine f_seq ?_
  refine f_region ?_
  refine scons (CStep.step (PStep.c (p_fieldRef rfl wFew4_fld24_0 wFew4_siz3 rfl (Sees.of rfl) rfl)) rfl rfl rfl rfl) ?_
  refine scons (CStep.step (PStep.c (p_loadB (y := .val _) rfl wFew4_agg3 (Sees.of rfl) rfl rfl rfl rfl)) rfl rfl rfl rfl) ?_
  refine scons (CStep.step (PStep.c (p_gtr rfl (Sees.of rfl) (Sees.of rfl))) rfl rfl rfl rfl) ?_
  refine scons (CStep.step (PStep.c (p_move (y := .val _) rfl (Sees.of rfl) rfl)) rfl rfl rfl rfl) ?_
  refine scons (CStep.guard rfl rfl rfl (fun hg0 => PStep.c (p_fieldRef rfl wFew4_fld24_0 wFew4_siz3 rfl (Sees.of rfl) rfl)) rfl rfl rfl rfl rfl) ?_
  refine scons (CStep.guard rfl rfl rfl (fun hg0 => PStep.c (p_loadB (y := .val _) rfl wFew4_agg3 (Sees.gv' rfl hg0) rfl rfl rfl rfl)) rfl rfl rfl rfl rfl) ?_
  refine scons (CStep.guard rfl rfl rfl (fun hg0 => PStep.c (p_leq rfl (Sees.gv' rfl hg0) (Sees.of rfl))) rfl rfl rfl rfl rfl) ?_
  refine scons (CStep.step (PStep.c (p_and rfl (Sees.of rfl) (fun h => Sees.gv' rfl (beq_of_eq h)) (Sees.of rfl))) rfl rfl rfl rfl) ?_
  refine scons (CStep.step (PStep.c (p_move (y := .val _) rfl (Sees.of rfl) rfl)) rfl rfl rfl rfl) ?_
  refine scons (CStep.guard rfl rfl rfl (fun hg0 => PStep.c (p_fieldRef rfl wFew4_fld24_1 wFew4_siz22 rfl (Sees.of rfl) rfl)) rfl rfl rfl rfl rfl) ?_
  refine scons (CStep.guard rfl rfl rfl (fun hg0 => PStep.c (p_loadB (y := .val _) rfl wFew4_agg22 (Sees.gv' rfl hg0) rfl rfl rfl rfl)) rfl rfl rfl rfl rfl) ?_
  refine scons (CStep.guard rfl rfl rfl (fun hg0 => PStep.c (p_len rfl wFew4_isl22 (Sees.gv' rfl hg0))) rfl rfl rfl rfl rfl) ?_
  refine scons (CStep.guard rfl rfl rfl (fun hg0 => PStep.c (p_gtr rfl (Sees.gv' rfl hg0) (Sees.of rfl))) rfl rfl rfl rfl rfl) ?_
  refine scons (CStep.guard rfl rfl rfl (fun hg0 => PStep.c (p_move (y := .val _) rfl (Sees.gv' rfl hg0) rfl)) rfl rfl rfl rfl rfl) ?_
  refine scons (CStep.guard2 rfl rfl rfl (fun hg1 hg0 => PStep.c (p_fieldRef rfl wFew4_fld24_1 wFew4_siz22 rfl (Sees.of rfl) rfl)) rfl rfl rfl rfl rfl) ?_
  refine scons (CStep.guard2 rfl rfl rfl (fun hg1 hg0 => PStep.c (p_loadB (y := .val _) rfl wFew4_agg22 (Sees.gv' rfl (and_true_of hg1 hg0)) rfl rfl rfl rfl)) rfl rfl rfl rfl rfl) ?_
  refine scons (CStep.guard2 rfl rfl rfl (fun hg1 hg0 => PStep.c (p_len rfl wFew4_isl22 (Sees.gv' rfl (and_true_of hg1 hg0)))) rfl rfl rfl rfl rfl) ?_
  refine scons (CStep.guard2 rfl rfl rfl (fun hg1 hg0 => PStep.c (p_leq rfl (Sees.gv' rfl (and_true_of hg1 hg0)) (Sees.of rfl))) rfl rfl rfl rfl rfl) ?_
  refine scons (CStep.guard rfl rfl rfl (fun hg0 => PStep.c (p_and rfl (Sees.gv' rfl hg0) (fun h => Sees.gv' rfl (and_true_of hg0 (beq_of_eq h))) (Sees.of rfl))) rfl rfl rfl rfl rfl) ?_
  refine scons (CStep.step (PStep.c (p_or rfl (Sees.of rfl) (Sees.of rfl) (fun h => Sees.gv' rfl (beq_of_eq h)))) rfl rfl rfl rfl) ?_
  refine scons (CStep.step (PStep.c (p_assign (y := .val _) rfl (Sees.of rfl) rfl)) rfl rfl rfl rfl) ?_
  refine snil ?_
  refine f_ret ?_
  refine ends_ret (res_eq (res1 rfl (res_tmp rfl (Sees.of rfl))) ?_)
  rfl

theorem fewSure_spec  :
    Spec Go.Proofs.Try.prog 39 [] (D.bool true) := by
  refine spec_of' Go.Proofs.Try.func39 rfl Go.Proofs.Try.ntmps39 rfl ?_
  refine f_seq ?_
  refine f_region ?_
  refine scons (CStep.step (PStep.c (p_assign (y := .val _) rfl (Sees.of rfl) rfl)) rfl rfl rfl rfl) ?_
  refine snil ?_
  refine f_seq ?_
  refine f_region ?_
  refine scons (CStep.step (c_buildSlice (f := di) (za := 0) (xs := [.const (.int .i64 1)]) rfl rfl wFew4_isl25 wFew4_siz3 wFew4_zer3 rfl rfl ⟨_, _, rfl, (Sees.of rfl), rfl, rfl, rfl⟩) rfl rfl rfl rfl) ?_
  refine scons (CStep.step (c_buildSlice (f := di) (za := 0) (xs := [.const (.int .i64 (-1))]) rfl rfl wFew4_isl25 wFew4_siz3 wFew4_zer3 rfl rfl ⟨_, _, rfl, (Sees.of rfl), rfl, rfl, rfl⟩) rfl rfl rfl rfl) ?_
  refine scons (CStep.step (c_buildSlice (f := di) (za := 0) (xs := [.const (.int .i64 2)]) rfl rfl wFew4_isl25 wFew4_siz3 wFew4_zer3 rfl rfl ⟨_, _, rfl, (Sees.of rfl), rfl, rfl, rfl⟩) rfl rfl rfl rfl) ?_
  refine scons (CStep.step (c_buildSlice (f := ints) (za := []) (xs := [.tmp 6, .tmp 7, .tmp 8]) rfl rfl wFew4_isl22 wFew4_siz25 wFew4_zer25 rfl rfl ⟨_, _, rfl, (Sees.of rfl), rfl, rfl, ⟨_, _, rfl, (Sees.of rfl), rfl, rfl, ⟨_, _, rfl, (Sees.of rfl), rfl, rfl, rfl⟩⟩⟩) rfl rfl rfl rfl) ?_
  refine scons (CStep.step (PStep.c (p_build rfl wFew4_plc24 wFew4_zer24 (by decide) wFew4_zch24 ⟨_, _, _, rfl, rfl, rfl, (Sees.of rfl), ⟨_, _, _, rfl, rfl, rfl, (Sees.of rfl), rfl⟩⟩ rfl)) rfl rfl rfl rfl) ?_
  refine scons (CStep.step (c_call rfl wFew4_isf36 ⟨_, _, rfl, (Sees.of rfl), rfl, rfl⟩ (core_spec 2 [[1], [-1], [2]])) rfl rfl rfl rfl) ?_
  refine scons (CStep.step (PStep.c (p_move (y := .val _) rfl (Sees.of rfl) rfl)) rfl rfl rfl rfl) ?_
  refine scons (CStep.step (PStep.c (p_extract rfl (Sees.of rfl) rfl)) rfl rfl rfl rfl) ?_
  refine scons (CStep.step (PStep.c (p_extract rfl (Sees.of rfl) rfl)) rfl rfl rfl rfl) ?_
  refine scons (r_alloc (ob := 10002) rfl wFew4_zer28 rfl rfl rfl rfl rfl rfl) ?_
  refine scons (CStep.step (PStep.c (p_assign (y := .val _) rfl (Sees.of rfl) rfl)) rfl rfl rfl rfl) ?_
  refine scons (r_storeS rfl wFew4_siz28 rfl rfl rfl (Sees.of rfl) rfl (Sees.of rfl) rfl rfl rfl rfl) ?_
  refine snil ?_
  refine f_seq ?_
  refine f_region ?_
  refine scons (CStep.step (c_buildSlice (f := di) (za := 0) (xs := [.const (.int .i64 1)]) rfl rfl wFew4_isl25 wFew4_siz3 wFew4_zer3 rfl rfl ⟨_, _, rfl, (Sees.of rfl), rfl, rfl, rfl⟩) rfl rfl rfl rfl) ?_
  refine scons (CStep.step (c_buildSlice (f := di) (za := 0) (xs := [.const (.int .i64 (-1))]) rfl rfl wFew4_isl25 wFew4_siz3 wFew4_zer3 rfl rfl ⟨_, _, rfl, (Sees.of rfl), rfl, rfl, rfl⟩) rfl rfl rfl rfl) ?_
  refine scons (CStep.step (c_buildSlice (f := di) (za := 0) (xs := [.const (.int .i64 2)]) rfl rfl wFew4_isl25 wFew4_siz3 wFew4_zer3 rfl rfl ⟨_, _, rfl, (Sees.of rfl), rfl, rfl, rfl⟩) rfl rfl rfl rfl) ?_
  refine scons (CStep.step (c_buildSlice (f := ints) (za := []) (xs := [.tmp 15, .tmp 16, .tmp 17]) rfl rfl wFew4_isl22 wFew4_siz25 wFew4_zer25 rfl rfl ⟨_, _, rfl, (Sees.of rfl), rfl, rfl, ⟨_, _, rfl, (Sees.of rfl), rfl, rfl, ⟨_, _, rfl, (Sees.of rfl), rfl, rfl, rfl⟩⟩⟩) rfl rfl rfl rfl) ?_
  refine scons (CStep.step (PStep.c (p_build rfl wFew4_plc24 wFew4_zer24 (by decide) wFew4_zch24 ⟨_, _, _, rfl, rfl, rfl, (Sees.of rfl), ⟨_, _, _, rfl, rfl, rfl, (Sees.of rfl), rfl⟩⟩ rfl)) rfl rfl rfl rfl) ?_
  refine scons (CStep.step (c_call rfl wFew4_isf42 ⟨_, _, rfl, (Sees.of rfl), rfl, rfl⟩ (mends_spec 2 [[1], [-1], [2]])) rfl rfl rfl rfl) ?_
  refine scons (CStep.step (PStep.c (p_move (y := .val _) rfl (Sees.of rfl) rfl)) rfl rfl rfl rfl) ?_
  refine scons (CStep.step (PStep.c (p_extract rfl (Sees.of rfl) rfl)) rfl rfl rfl rfl) ?_
  refine scons (CStep.step (PStep.c (p_extract rfl (Sees.of rfl) rfl)) rfl rfl rfl rfl) ?_
  refine scons (r_alloc (ob := 10004) rfl wFew4_zer28 rfl rfl rfl rfl rfl rfl) ?_
  refine scons (CStep.step (PStep.c (p_assign (y := .val _) rfl (Sees.of rfl) rfl)) rfl rfl rfl rfl) ?_
  refine scons (r_storeS rfl wFew4_siz28 rfl rfl rfl (Sees.of rfl) rfl (Sees.of rfl) rfl rfl rfl rfl) ?_
  refine snil ?_
  refine f_seq ?_
  refine f_region ?_
  refine scons (CStep.step (PStep.c (p_fieldRef rfl wFew4_fld28_0 wFew4_siz3 rfl (Sees.of rfl) rfl)) rfl rfl rfl rfl) ?_
  refine scons (CStep.step (PStep.c (p_loadB (y := .val _) rfl wFew4_agg3 (Sees.of rfl) rfl rfl rfl rfl)) rfl rfl rfl rfl) ?_
  refine scons (CStep.step (PStep.c (p_eql rfl (Sees.of rfl) (Sees.of rfl))) rfl rfl rfl rfl) ?_
  refine scons (CStep.step (PStep.c (p_move (y := .val _) rfl (Sees.of rfl) rfl)) rfl rfl rfl rfl) ?_
  refine scons (CStep.guard rfl rfl rfl (fun hg0 => PStep.c (p_fieldRef rfl wFew4_fld28_0 wFew4_siz3 rfl (Sees.of rfl) rfl)) rfl rfl rfl rfl rfl) ?_
  refine scons (CStep.guard rfl rfl rfl (fun hg0 => PStep.c (p_loadB (y := .val _) rfl wFew4_agg3 (Sees.gv' rfl hg0) rfl rfl rfl rfl)) rfl rfl rfl rfl rfl) ?_
  refine scons (CStep.guard rfl rfl rfl (fun hg0 => PStep.c (p_eql rfl (Sees.gv' rfl hg0) (Sees.of rfl))) rfl rfl rfl rfl rfl) ?_
  refine scons (CStep.step (PStep.c (p_and rfl (Sees.of rfl) (fun h => Sees.gv' rfl (beq_of_eq h)) (Sees.of rfl))) rfl rfl rfl rfl) ?_
  refine scons (CStep.step (PStep.c (p_move (y := .val _) rfl (Sees.of rfl) rfl)) rfl rfl rfl rfl) ?_
  refine scons (CStep.guard rfl rfl rfl (fun hg0 => PStep.c (p_move (y := .val _) rfl (Sees.of rfl) rfl)) rfl rfl rfl rfl rfl) ?_
  refine scons (CStep.guard rfl rfl rfl (fun hg0 => c_buildSlice (f := di) (za := 0) (xs := [.const (.int .i64 0), .const (.int .i64 1)]) rfl rfl wFew4_isl25 wFew4_siz3 wFew4_zer3 rfl rfl ⟨_, _, rfl, (Sees.of rfl), rfl, rfl, ⟨_, _, rfl, (Sees.of rfl), rfl, rfl, rfl⟩⟩) rfl rfl rfl rfl rfl) ?_
  refine scons (CStep.guard rfl rfl rfl (fun hg0 => c_call rfl wFew4_isf40 ⟨_, _, rfl, (Sees.gv' rfl hg0), rfl, ⟨_, _, rfl, (Sees.gv' rfl hg0), rfl, rfl⟩⟩ (sameN_spec _ _)) rfl rfl rfl rfl rfl) ?_
  refine scons (CStep.step (PStep.c (p_and rfl (Sees.of rfl) (fun h => Sees.gv' rfl (beq_of_eq h)) (Sees.of rfl))) rfl rfl rfl rfl) ?_
  refine scons (CStep.step (PStep.c (p_move (y := .val _) rfl (Sees.of rfl) rfl)) rfl rfl rfl rfl) ?_
  refine scons (CStep.guard rfl rfl rfl (fun hg0 => PStep.c (p_move (y := .val _) rfl (Sees.of rfl) rfl)) rfl rfl rfl rfl rfl) ?_
  refine scons (CStep.guard rfl rfl rfl (fun hg0 => c_buildSlice (f := di) (za := 0) (xs := [.const (.int .i64 0)]) rfl rfl wFew4_isl25 wFew4_siz3 wFew4_zer3 rfl rfl ⟨_, _, rfl, (Sees.of rfl), rfl, rfl, rfl⟩) rfl rfl rfl rfl rfl) ?_
  refine scons (CStep.guard rfl rfl rfl (fun hg0 => c_buildSlice (f := di) (za := 0) (xs := [.const (.int .i64 1)]) rfl rfl wFew4_isl25 wFew4_siz3 wFew4_zer3 rfl rfl ⟨_, _, rfl, (Sees.of rfl), rfl, rfl, rfl⟩) rfl rfl rfl rfl rfl) ?_
  refine scons (CStep.guard rfl rfl rfl (fun hg0 => c_buildSlice (f := ints) (za := []) (xs := [.tmp 38, .tmp 39]) rfl rfl wFew4_isl22 wFew4_siz25 wFew4_zer25 rfl rfl ⟨_, _, rfl, (Sees.gv' rfl hg0), rfl, rfl, ⟨_, _, rfl, (Sees.gv' rfl hg0), rfl, rfl, rfl⟩⟩) rfl rfl rfl rfl rfl) ?_
  refine scons (CStep.guard rfl rfl rfl (fun hg0 => c_call rfl wFew4_isf34 ⟨_, _, rfl, (Sees.gv' rfl hg0), rfl, ⟨_, _, rfl, (Sees.gv' rfl hg0), rfl, rfl⟩⟩ (rows_spec _ _)) rfl rfl rfl rfl rfl) ?_
  refine scons (CStep.step (PStep.c (p_and rfl (Sees.of rfl) (fun h => Sees.gv' rfl (beq_of_eq h)) (Sees.of rfl))) rfl rfl rfl rfl) ?_
  refine scons (CStep.step (PStep.c (p_assign (y := .val _) rfl (Sees.of rfl) rfl)) rfl rfl rfl rfl) ?_
  refine snil ?_
  refine f_ret ?_
  refine ends_ret (res_eq (res1 rfl (res_tmp rfl (Sees.of rfl))) ?_)
  rw [Sp.three_core, Sp.three_mends]
  simp

set_option maxHeartbeats 1000000 in
theorem FewCores_spec (n : Int) (ls : List (List Int)) :
    Spec Go.Proofs.Try.prog 8 [.val (cnf n ls)] (D.bool true) := by
  refine spec_of' Go.Proofs.Try.func8 rfl Go.Proofs.Try.ntmps8 rfl ?_
  refine f_seq ?_
  refine f_region ?_
  refine scons (r_box (ob := 10001) rfl (Sees.of rfl) rfl rfl rfl rfl rfl rfl) ?_
  refine scons (CStep.step (PStep.c (p_assign (y := .val _) rfl (Sees.of rfl) rfl)) rfl rfl rfl rfl) ?_
  refine snil ?_
  refine f_seq ?_
  refine f_seq ?_
  refine f_region ?_
  refine scons (CStep.step (PStep.c (p_loadBS rfl wFew4_agg24 wFew4_siz24 (Sees.of rfl) rfl rfl rfl)) rfl rfl rfl rfl) ?_
  refine scons (CStep.step (c_call rfl wFew4_isf35 ⟨_, _, rfl, (Sees.of rfl), rfl, rfl⟩ (crowd_spec n ls)) rfl rfl rfl rfl) ?_
  refine snil ?_
  refine f_cond rfl ?_ ?_
  · intro hc1
    try simp only [bs] at hc1
    refine f_seq ?_
    refine f_region ?_
    refine scons (CStep.step (PStep.c (p_assign (y := .val _) rfl (Sees.of rfl) rfl)) rfl rfl rfl rfl) ?_
    refine snil ?_
    refine f_ret ?_
    refine ends_ret (res_eq (res1 rfl (res_tmp rfl (Sees.of rfl))) ?_)
    rfl
  · intro hc1
    try simp only [bs] at hc1
    refine f_skip ?_
    refine f_seq ?_
    refine f_region ?_
    refine scons (CStep.step (PStep.c (p_loadBS rfl wFew4_agg24 wFew4_siz24 (Sees.of rfl) rfl rfl rfl)) rfl rfl rfl rfl) ?_
    refine scons (CStep.step (c_call rfl wFew4_isf36 ⟨_, _, rfl, (Sees.of rfl), rfl, rfl⟩ (core_spec n ls)) rfl rfl rfl rfl) ?_
    refine scons (CStep.step (PStep.c (p_move (y := .val _) rfl (Sees.of rfl) rfl)) rfl rfl rfl rfl) ?_
    refine scons (CStep.step (PStep.c (p_extract rfl (Sees.of rfl) rfl)) rfl rfl rfl rfl) ?_
    refine scons (CStep.step (PStep.c (p_extract rfl (Sees.of rfl) rfl)) rfl rfl rfl rfl) ?_
    refine scons (r_alloc (ob := 10004) rfl wFew4_zer28 rfl rfl rfl rfl rfl rfl) ?_
    refine scons (CStep.step (PStep.c (p_assign (y := .val _) rfl (Sees.of rfl) rfl)) rfl rfl rfl rfl) ?_
    refine scons (r_storeS rfl wFew4_siz28 rfl rfl rfl (Sees.of rfl) rfl (Sees.of rfl) rfl rfl rfl rfl) ?_
    refine snil ?_
    refine f_seq ?_
    refine f_region ?_
    refine scons (CStep.step (PStep.c (p_loadBS rfl wFew4_agg24 wFew4_siz24 (Sees.of rfl) rfl rfl rfl)) rfl rfl rfl rfl) ?_
    refine scons (CStep.step (c_call rfl wFew4_isf37 ⟨_, _, rfl, (Sees.of rfl), rfl, rfl⟩ (tryWrong_spec n ls)) rfl rfl rfl rfl) ?_
    refine scons (r_alloc (ob := 10005) rfl wFew4_zer28 rfl rfl rfl rfl rfl rfl) ?_
    refine scons (r_storeS rfl wFew4_siz28 rfl rfl rfl (Sees.of rfl) rfl (Sees.of rfl) rfl rfl rfl rfl) ?_
    refine snil ?_
    refine f_seq ?_
    refine f_seq ?_
    refine f_region ?_
    refine scons (CStep.step (PStep.c (p_fieldRef rfl wFew4_fld28_0 wFew4_siz3 rfl (Sees.of rfl) rfl)) rfl rfl rfl rfl) ?_
    refine scons (CStep.step (PStep.c (p_loadB (y := .val _) rfl wFew4_agg3 (Sees.of rfl) rfl rfl rfl rfl)) rfl rfl rfl rfl) ?_
    refine scons (CStep.step (PStep.c (p_eql rfl (Sees.of rfl) (Sees.of rfl))) rfl rfl rfl rfl) ?_
    refine scons (CStep.step (PStep.c (p_move (y := .val _) rfl (Sees.of rfl) rfl)) rfl rfl rfl rfl) ?_
    refine scons (CStep.guard rfl rfl rfl (fun hg0 => PStep.c (p_fieldRef rfl wFew4_fld24_0 wFew4_siz3 rfl (Sees.of rfl) rfl)) rfl rfl rfl rfl rfl) ?_
    refine scons (CStep.guard rfl rfl rfl (fun hg0 => PStep.c (p_loadB (y := .val _) rfl wFew4_agg3 (Sees.gv' rfl hg0) rfl rfl rfl rfl)) rfl rfl rfl rfl rfl) ?_
    refine scons (CStep.guard rfl rfl rfl (fun hg0 => PStep.c (p_fieldRef rfl wFew4_fld24_1 wFew4_siz22 rfl (Sees.of rfl) rfl)) rfl rfl rfl rfl rfl) ?_
    refine scons (CStep.guard rfl rfl rfl (fun hg0 => PStep.c (p_loadB (y := .val _) rfl wFew4_agg22 (Sees.gv' rfl hg0) rfl rfl rfl rfl)) rfl rfl rfl rfl rfl) ?_
    refine scons (CStep.guard rfl rfl rfl (fun hg0 => c_call rfl wFew4_isf38 ⟨_, _, rfl, (Sees.gv' rfl hg0), rfl, ⟨_, _, rfl, (Sees.gv' rfl hg0), rfl, rfl⟩⟩ (someG_spec n ls (by simpa using hg0))) rfl rfl rfl rfl rfl) ?_
    refine scons (CStep.guard rfl rfl rfl (fun hg0 => PStep.c (p_geq rfl (Sees.gv' rfl hg0) (Sees.of rfl))) rfl rfl rfl rfl rfl) ?_
    refine scons (CStep.step (PStep.c (p_and rfl (Sees.of rfl) (fun h => Sees.gv' rfl (beq_of_eq h)) (Sees.of rfl))) rfl rfl rfl rfl) ?_
    refine snil ?_
    refine f_cond rfl ?_ ?_
    · intro hc2
      try simp only [bs] at hc2
      refine f_region ?_
      refine scons (CStep.step (PStep.c (p_build rfl wFew4_plc28 wFew4_zer28 (by decide) wFew4_zch28 ⟨_, _, _, rfl, rfl, rfl, (Sees.of rfl), rfl⟩ rfl)) rfl rfl rfl rfl) ?_
      refine scons (r_storeS rfl wFew4_siz28 rfl rfl rfl (Sees.of rfl) rfl (Sees.of rfl) rfl rfl rfl rfl) ?_
      refine snil ?_
      refine f_seq ?_
      refine f_seq ?_
      refine f_region ?_
      refine scons (CStep.step (PStep.c (p_fieldRef rfl wFew4_fld28_0 wFew4_siz3 rfl (Sees.of rfl) rfl)) rfl rfl rfl rfl) ?_
      refine scons (CStep.step (PStep.c (p_loadB (y := .val _) rfl wFew4_agg3 (Sees.of rfl) rfl rfl rfl rfl)) rfl rfl rfl rfl) ?_
      refine scons (CStep.step (PStep.c (p_neq rfl (Sees.of rfl) (Sees.of rfl))) rfl rfl rfl rfl) ?_
      refine snil ?_
      refine f_cond rfl ?_ ?_
      · intro hc3
        try simp only [bs] at hc3
        refine f_seq ?_
        refine f_region ?_
        refine scons (CStep.step (PStep.c (p_loadBS rfl wFew4_agg28 wFew4_siz28 (Sees.of rfl) rfl rfl rfl)) rfl rfl rfl rfl) ?_
        refine scons (CStep.step (PStep.c (p_loadBS rfl wFew4_agg28 wFew4_siz28 (Sees.of rfl) rfl rfl rfl)) rfl rfl rfl rfl) ?_
        refine scons (CStep.step (PStep.c (p_eqlS2 rfl wFew4_eq228 (Sees.of rfl) (Sees.of rfl))) rfl rfl rfl rfl) ?_
        refine scons (CStep.step (PStep.c (p_move (y := .val _) rfl (Sees.of rfl) rfl)) rfl rfl rfl rfl) ?_
        refine scons (CStep.guard rfl rfl rfl (fun hg0 => PStep.c (p_move (y := .val _) rfl (Sees.of rfl) rfl)) rfl rfl rfl rfl rfl) ?_
        refine scons (CStep.guard rfl rfl rfl (fun hg0 => PStep.c (p_len rfl wFew4_isl25 (Sees.gv' rfl hg0))) rfl rfl rfl rfl rfl) ?_
        refine scons (CStep.guard rfl rfl rfl (fun hg0 => PStep.c (p_eql rfl (Sees.gv' rfl hg0) (Sees.of rfl))) rfl rfl rfl rfl rfl) ?_
        refine scons (CStep.step (PStep.c (p_and rfl (Sees.of rfl) (fun h => Sees.gv' rfl (beq_of_eq h)) (Sees.of rfl))) rfl rfl rfl rfl) ?_
        refine scons (CStep.step (PStep.c (p_move (y := .val _) rfl (Sees.of rfl) rfl)) rfl rfl rfl rfl) ?_
        refine scons (CStep.guard rfl rfl rfl (fun hg0 => c_call rfl wFew4_isf39 rfl (fewSure_spec)) rfl rfl rfl rfl rfl) ?_
        refine scons (CStep.step (PStep.c (p_and rfl (Sees.of rfl) (fun h => Sees.gv' rfl (beq_of_eq h)) (Sees.of rfl))) rfl rfl rfl rfl) ?_
        refine scons (CStep.step (PStep.c (p_assign (y := .val _) rfl (Sees.of rfl) rfl)) rfl rfl rfl rfl) ?_
        refine snil ?_
        refine f_ret ?_
        refine ends_ret (res_eq (res1 rfl (res_tmp rfl (Sees.of rfl))) ?_)
        rw [Sp.coreOf_some hc2.1 hc2.2]
        simp
      · intro hc3
        try simp only [bs] at hc3
        refine f_skip ?_
        refine f_seq ?_
        refine f_region ?_
        refine scons (CStep.step (PStep.c (p_loadBS rfl wFew4_agg28 wFew4_siz28 (Sees.of rfl) rfl rfl rfl)) rfl rfl rfl rfl) ?_
        refine scons (CStep.step (PStep.c (p_loadBS rfl wFew4_agg28 wFew4_siz28 (Sees.of rfl) rfl rfl rfl)) rfl rfl rfl rfl) ?_
        refine scons (CStep.step (PStep.c (p_eqlS2 rfl wFew4_eq228 (Sees.of rfl) (Sees.of rfl))) rfl rfl rfl rfl) ?_
        refine scons (CStep.step (PStep.c (p_move (y := .val _) rfl (Sees.of rfl) rfl)) rfl rfl rfl rfl) ?_
        refine scons (CStep.guard rfl rfl rfl (fun hg0 => PStep.c (p_move (y := .val _) rfl (Sees.of rfl) rfl)) rfl rfl rfl rfl rfl) ?_
        refine scons (CStep.guard rfl rfl rfl (fun hg0 => PStep.c (p_loadBS rfl wFew4_agg24 wFew4_siz24 (Sees.of rfl) rfl rfl rfl)) rfl rfl rfl rfl rfl) ?_
        refine scons (CStep.guard rfl rfl rfl (fun hg0 => c_call rfl wFew4_isf41 ⟨_, _, rfl, (Sees.gv' rfl hg0), rfl, rfl⟩ (coreG_spec n ls (by first | exact hc2.1 | exact hc4))) rfl rfl rfl rfl rfl) ?_
        refine scons (CStep.guard rfl rfl rfl (fun hg0 => c_call rfl wFew4_isf40 ⟨_, _, rfl, (Sees.gv' rfl hg0), rfl, ⟨_, _, rfl, (Sees.gv' rfl hg0), rfl, rfl⟩⟩ (sameN_spec _ _)) rfl rfl rfl rfl rfl) ?_
        refine scons (CStep.step (PStep.c (p_and rfl (Sees.of rfl) (fun h => Sees.gv' rfl (beq_of_eq h)) (Sees.of rfl))) rfl rfl rfl rfl) ?_
        refine scons (CStep.step (PStep.c (p_move (y := .val _) rfl (Sees.of rfl) rfl)) rfl rfl rfl rfl) ?_
        refine scons (CStep.guard rfl rfl rfl (fun hg0 => c_call rfl wFew4_isf39 rfl (fewSure_spec)) rfl rfl rfl rfl rfl) ?_
        refine scons (CStep.step (PStep.c (p_and rfl (Sees.of rfl) (fun h => Sees.gv' rfl (beq_of_eq h)) (Sees.of rfl))) rfl rfl rfl rfl) ?_
        refine scons (CStep.step (PStep.c (p_assign (y := .val _) rfl (Sees.of rfl) rfl)) rfl rfl rfl rfl) ?_
        refine snil ?_
        refine f_ret ?_
        refine ends_ret (res_eq (res1 rfl (res_tmp rfl (Sees.of rfl))) ?_)
        exact absurd hc3 (by decide)
    · intro hc2
      try simp only [bs] at hc2
      refine f_skip ?_
      refine f_seq ?_
      refine f_seq ?_
      refine f_region ?_
      refine scons (CStep.step (PStep.c (p_fieldRef rfl wFew4_fld28_0 wFew4_siz3 rfl (Sees.of rfl) rfl)) rfl rfl rfl rfl) ?_
      refine scons (CStep.step (PStep.c (p_loadB (y := .val _) rfl wFew4_agg3 (Sees.of rfl) rfl rfl rfl rfl)) rfl rfl rfl rfl) ?_
      refine scons (CStep.step (PStep.c (p_neq rfl (Sees.of rfl) (Sees.of rfl))) rfl rfl rfl rfl) ?_
      refine snil ?_
      refine f_cond rfl ?_ ?_
      · intro hc4
        try simp only [bs] at hc4
        refine f_seq ?_
        refine f_region ?_
        refine scons (CStep.step (PStep.c (p_loadBS rfl wFew4_agg28 wFew4_siz28 (Sees.of rfl) rfl rfl rfl)) rfl rfl rfl rfl) ?_
        refine scons (CStep.step (PStep.c (p_loadBS rfl wFew4_agg28 wFew4_siz28 (Sees.of rfl) rfl rfl rfl)) rfl rfl rfl rfl) ?_
        refine scons (CStep.step (PStep.c (p_eqlS2 rfl wFew4_eq228 (Sees.of rfl) (Sees.of rfl))) rfl rfl rfl rfl) ?_
        refine scons (CStep.step (PStep.c (p_move (y := .val _) rfl (Sees.of rfl) rfl)) rfl rfl rfl rfl) ?_
        refine scons (CStep.guard rfl rfl rfl (fun hg0 => PStep.c (p_move (y := .val _) rfl (Sees.of rfl) rfl)) rfl rfl rfl rfl rfl) ?_
        refine scons (CStep.guard rfl rfl rfl (fun hg0 => PStep.c (p_len rfl wFew4_isl25 (Sees.gv' rfl hg0))) rfl rfl rfl rfl rfl) ?_
        refine scons (CStep.guard rfl rfl rfl (fun hg0 => PStep.c (p_eql rfl (Sees.gv' rfl hg0) (Sees.of rfl))) rfl rfl rfl rfl rfl) ?_
        refine scons (CStep.step (PStep.c (p_and rfl (Sees.of rfl) (fun h => Sees.gv' rfl (beq_of_eq h)) (Sees.of rfl))) rfl rfl rfl rfl) ?_
        refine scons (CStep.step (PStep.c (p_move (y := .val _) rfl (Sees.of rfl) rfl)) rfl rfl rfl rfl) ?_
        refine scons (CStep.guard rfl rfl rfl (fun hg0 => c_call rfl wFew4_isf39 rfl (fewSure_spec)) rfl rfl rfl rfl rfl) ?_
        refine scons (CStep.step (PStep.c (p_and rfl (Sees.of rfl) (fun h => Sees.gv' rfl (beq_of_eq h)) (Sees.of rfl))) rfl rfl rfl rfl) ?_
        refine scons (CStep.step (PStep.c (p_assign (y := .val _) rfl (Sees.of rfl) rfl)) rfl rfl rfl rfl) ?_
        refine snil ?_
        refine f_ret ?_
        refine ends_ret (res_eq (res1 rfl (res_tmp rfl (Sees.of rfl))) ?_)
        rw [Sp.coreOf_bad hc4]
        simp
      · intro hc4
        try simp only [bs] at hc4
        refine f_skip ?_
        refine f_seq ?_
        refine f_region ?_
        refine scons (CStep.step (PStep.c (p_loadBS rfl wFew4_agg28 wFew4_siz28 (Sees.of rfl) rfl rfl rfl)) rfl rfl rfl rfl) ?_
        refine scons (CStep.step (PStep.c (p_loadBS rfl wFew4_agg28 wFew4_siz28 (Sees.of rfl) rfl rfl rfl)) rfl rfl rfl rfl) ?_
        refine scons (CStep.step (PStep.c (p_eqlS2 rfl wFew4_eq228 (Sees.of rfl) (Sees.of rfl))) rfl rfl rfl rfl) ?_
        refine scons (CStep.step (PStep.c (p_move (y := .val _) rfl (Sees.of rfl) rfl)) rfl rfl rfl rfl) ?_
        refine scons (CStep.guard rfl rfl rfl (fun hg0 => PStep.c (p_move (y := .val _) rfl (Sees.of rfl) rfl)) rfl rfl rfl rfl rfl) ?_
        refine scons (CStep.guard rfl rfl rfl (fun hg0 => PStep.c (p_loadBS rfl wFew4_agg24 wFew4_siz24 (Sees.of rfl) rfl rfl rfl)) rfl rfl rfl rfl rfl) ?_
        refine scons (CStep.guard rfl rfl rfl (fun hg0 => c_call rfl wFew4_isf41 ⟨_, _, rfl, (Sees.gv' rfl hg0), rfl, rfl⟩ (coreG_spec n ls (by first | exact hc2.1 | exact hc4))) rfl rfl rfl rfl rfl) ?_
        refine scons (CStep.guard rfl rfl rfl (fun hg0 => c_call rfl wFew4_isf40 ⟨_, _, rfl, (Sees.gv' rfl hg0), rfl, ⟨_, _, rfl, (Sees.gv' rfl hg0), rfl, rfl⟩⟩ (sameN_spec _ _)) rfl rfl rfl rfl rfl) ?_
        refine scons (CStep.step (PStep.c (p_and rfl (Sees.of rfl) (fun h => Sees.gv' rfl (beq_of_eq h)) (Sees.of rfl))) rfl rfl rfl rfl) ?_
        refine scons (CStep.step (PStep.c (p_move (y := .val _) rfl (Sees.of rfl) rfl)) rfl rfl rfl rfl) ?_
        refine scons (CStep.guard rfl rfl rfl (fun hg0 => c_call rfl wFew4_isf39 rfl (fewSure_spec)) rfl rfl rfl rfl rfl) ?_
        refine scons (CStep.step (PStep.c (p_and rfl (Sees.of rfl) (fun h => Sees.gv' rfl (beq_of_eq h)) (Sees.of rfl))) rfl rfl rfl rfl) ?_
        refine scons (CStep.step (PStep.c (p_assign (y := .val _) rfl (Sees.of rfl) rfl)) rfl rfl rfl rfl) ?_
        refine snil ?_
        refine f_ret ?_
        refine ends_ret (res_eq (res1 rfl (res_tmp rfl (Sees.of rfl))) ?_)
        have hq := hc2.resolve_left (fun h => h hc4)
        rw [Sp.coreOf_none hc4 (by omega), (Sp.tryV_ok hc4).2.2]
        simp

end Go.Um
