/- Walks of Go functions of this seat, each by its contract. No condition beyond what each theorem says. -/
import Derived.Test.YtpjenbbalengoaaWCd3
import Derived.Test.YtpjenbbalengoaaPB
import Derived.Test.YtpjenbbalengoaaProg
import Derived.KernelRfl
set_option maxRecDepth 4000
namespace Go.Um
open Go Go.RowKit

theorem wCd4_agg24 : IsAgg Go.Proofs.Try.prog 24 false := by unfold IsAgg; kernel_rfl
theorem wCd4_agg26 : IsAgg Go.Proofs.Try.prog 26 true := by unfold IsAgg; kernel_rfl
theorem wCd4_agg3 : IsAgg Go.Proofs.Try.prog 3 false := by unfold IsAgg; kernel_rfl
theorem wCd4_agg33 : IsAgg Go.Proofs.Try.prog 33 false := by unfold IsAgg; kernel_rfl
theorem wCd4_agg37 : IsAgg Go.Proofs.Try.prog 37 false := by unfold IsAgg; kernel_rfl
theorem wCd4_agg39 : IsAgg Go.Proofs.Try.prog 39 true := by unfold IsAgg; kernel_rfl
theorem wCd4_agg41 : IsAgg Go.Proofs.Try.prog 41 true := by unfold IsAgg; kernel_rfl
theorem wCd4_agg44 : IsAgg Go.Proofs.Try.prog 44 false := by unfold IsAgg; kernel_rfl
theorem wCd4_fld26_0 : IsField Go.Proofs.Try.prog 26 0 0 3 := by unfold IsField; kernel_rfl
theorem wCd4_fld39_0 : IsField Go.Proofs.Try.prog 39 0 0 3 := by unfold IsField; kernel_rfl
theorem wCd4_fld39_1 : IsField Go.Proofs.Try.prog 39 1 1 37 := by unfold IsField; kernel_rfl
theorem wCd4_fld41_0 : IsField Go.Proofs.Try.prog 41 0 0 3 := by unfold IsField; kernel_rfl
theorem wCd4_fld41_1 : IsField Go.Proofs.Try.prog 41 1 1 3 := by unfold IsField; kernel_rfl
theorem wCd4_fld41_2 : IsField Go.Proofs.Try.prog 41 2 2 3 := by unfold IsField; kernel_rfl
theorem wCd4_fld41_3 : IsField Go.Proofs.Try.prog 41 3 3 3 := by unfold IsField; kernel_rfl
theorem wCd4_fld46_0 : IsField Go.Proofs.Try.prog 46 0 0 3 := by unfold IsField; kernel_rfl
theorem wCd4_fld46_1 : IsField Go.Proofs.Try.prog 46 1 1 24 := by unfold IsField; kernel_rfl
theorem wCd4_fld46_2 : IsField Go.Proofs.Try.prog 46 2 2 44 := by unfold IsField; kernel_rfl
theorem wCd4_fld46_3 : IsField Go.Proofs.Try.prog 46 3 3 33 := by unfold IsField; kernel_rfl
theorem wCd4_isf21 : IsFn Go.Proofs.Try.prog 21 := by unfold IsFn; kernel_rfl
theorem wCd4_isf57 : IsFn Go.Proofs.Try.prog 57 := by unfold IsFn; kernel_rfl
theorem wCd4_isf58 : IsFn Go.Proofs.Try.prog 58 := by unfold IsFn; kernel_rfl
theorem wCd4_isf59 : IsFn Go.Proofs.Try.prog 59 := by unfold IsFn; kernel_rfl
theorem wCd4_isf60 : IsFn Go.Proofs.Try.prog 60 := by unfold IsFn; kernel_rfl
theorem wCd4_isl24 : IsSlice Go.Proofs.Try.prog 24 4 := by unfold IsSlice; kernel_rfl
theorem wCd4_isl33 : IsSlice Go.Proofs.Try.prog 33 3 := by unfold IsSlice; kernel_rfl
theorem wCd4_isl37 : IsSlice Go.Proofs.Try.prog 37 33 := by unfold IsSlice; kernel_rfl
theorem wCd4_isl44 : IsSlice Go.Proofs.Try.prog 44 119 := by unfold IsSlice; kernel_rfl
theorem wCd4_plc26 : Places Go.Proofs.Try.prog 26 [(0, 1), (1, 1)] := by unfold Places; kernel_rfl
theorem wCd4_plc39 : Places Go.Proofs.Try.prog 39 [(0, 1), (1, 1)] := by unfold Places; kernel_rfl
theorem wCd4_plc41 : Places Go.Proofs.Try.prog 41 [(0, 1), (1, 1), (2, 1), (3, 1)] := by unfold Places; kernel_rfl
theorem wCd4_siz24 : Size Go.Proofs.Try.prog 24 1 := by unfold Size; kernel_rfl
theorem wCd4_siz26 : Size Go.Proofs.Try.prog 26 2 := by unfold Size; kernel_rfl
theorem wCd4_siz3 : Size Go.Proofs.Try.prog 3 1 := by unfold Size; kernel_rfl
theorem wCd4_siz33 : Size Go.Proofs.Try.prog 33 1 := by unfold Size; kernel_rfl
theorem wCd4_siz37 : Size Go.Proofs.Try.prog 37 1 := by unfold Size; kernel_rfl
theorem wCd4_siz39 : Size Go.Proofs.Try.prog 39 2 := by unfold Size; kernel_rfl
theorem wCd4_siz41 : Size Go.Proofs.Try.prog 41 4 := by unfold Size; kernel_rfl
theorem wCd4_siz44 : Size Go.Proofs.Try.prog 44 1 := by unfold Size; kernel_rfl
theorem wCd4_siz46 : Size Go.Proofs.Try.prog 46 5 := by unfold Size; kernel_rfl
def wCd4_z26 : D := .cons (.int .i64 0) (.cons (.int .i64 0) (.nil))
theorem wCd4_zch26 : ∀ (ok : Nat → Prop) (w : World), R Go.Proofs.Try.prog wCd4_z26 ok w (Value.cells (.agg #[(.int .i64 0), (.int .i64 0)])).toList := fun _ _ => z_int (z_int (z_nil))
def wCd4_z39 : D := .cons (.int .i64 0) (.cons (intss []) (.nil))
theorem wCd4_zch39 : ∀ (ok : Nat → Prop) (w : World), R Go.Proofs.Try.prog wCd4_z39 ok w (Value.cells (.agg #[(.int .i64 0), (.slice none 0 0)])).toList := fun _ _ => z_int (z_list (z_nil))
def wCd4_z41 : D := .cons (.int .i64 0) (.cons (.int .i64 0) (.cons (.int .i64 0) (.cons (.int .i64 0) (.nil))))
theorem wCd4_zch41 : ∀ (ok : Nat → Prop) (w : World), R Go.Proofs.Try.prog wCd4_z41 ok w (Value.cells (.agg #[(.int .i64 0), (.int .i64 0), (.int .i64 0), (.int .i64 0)])).toList := fun _ _ => z_int (z_int (z_int (z_int (z_nil))))
theorem wCd4_zer26 : Zero Go.Proofs.Try.prog 26 (.agg #[(.int .i64 0), (.int .i64 0)]) := by unfold Zero; kernel_rfl
theorem wCd4_zer3 : Zero Go.Proofs.Try.prog 3 (.int .i64 0) := by unfold Zero; kernel_rfl
theorem wCd4_zer33 : Zero Go.Proofs.Try.prog 33 (.slice none 0 0) := by unfold Zero; kernel_rfl
theorem wCd4_zer39 : Zero Go.Proofs.Try.prog 39 (.agg #[(.int .i64 0), (.slice none 0 0)]) := by unfold Zero; kernel_rfl
theorem wCd4_zer41 : Zero Go.Proofs.Try.prog 41 (.agg #[(.int .i64 0), (.int .i64 0), (.int .i64 0), (.int .i64 0)]) := by unfold Zero; kernel_rfl
theorem wCd4_zer46 : Zero Go.Proofs.Try.prog 46 (.agg #[(.int .i64 0), (.slice none 0 0), (.slice none 0 0), (.slice none 0 0), (.int .i64 0)]) := by unfold Zero; kernel_rfl

theorem heavy_spec (n : Int) (ls : List (List Int)) :
    Spec Go.Proofs.Try.prog 23 [.val (cnf n ls)] (D.bool (decide (12 < n) || decide (40 < (ls.length : Int)))) := by
  refine spec_of' Go.Proofs.Try.func23 rfl Go.Proofs.Try.ntmps23 rfl ?_
  refine f_seq ?_
  refine f_region ?_
  refine scons (r_box (ob := 10001) rfl (Sees.of rfl) rfl rfl rfl rfl rfl rfl) ?_
  refine scons (CStep.step (PStep.c (p_assign (y := .val _) rfl (Sees.of rfl) rfl)) rfl rfl rfl rfl) ?_
  refine snil ?_
  refine f_seq ?_
  refine f_region ?_
  refine scons (CStep.step (PStep.c (p_fieldRef rfl wCd4_fld39_0 wCd4_siz3 rfl (Sees.of rfl) rfl)) rfl rfl rfl rfl) ?_
  refine scons (CStep.step (PStep.c (p_loadB (y := .val _) rfl wCd4_agg3 (Sees.of rfl) rfl rfl rfl rfl)) rfl rfl rfl rfl) ?_
  refine scons (CStep.step (PStep.c (p_gtr rfl (Sees.of rfl) (Sees.of rfl))) rfl rfl rfl rfl) ?_
  refine scons (CStep.step (PStep.c (p_move (y := .val _) rfl (Sees.of rfl) rfl)) rfl rfl rfl rfl) ?_
  refine scons (CStep.guard rfl rfl rfl (fun hg0 => PStep.c (p_fieldRef rfl wCd4_fld39_1 wCd4_siz37 rfl (Sees.of rfl) rfl)) rfl rfl rfl rfl rfl) ?_
  refine scons (CStep.guard rfl rfl rfl (fun hg0 => PStep.c (p_loadB (y := .val _) rfl wCd4_agg37 (Sees.gv' rfl hg0) rfl rfl rfl rfl)) rfl rfl rfl rfl rfl) ?_
  refine scons (CStep.guard rfl rfl rfl (fun hg0 => PStep.c (p_len rfl wCd4_isl37 (Sees.gv' rfl hg0))) rfl rfl rfl rfl rfl) ?_
  refine scons (CStep.guard rfl rfl rfl (fun hg0 => PStep.c (p_gtr rfl (Sees.gv' rfl hg0) (Sees.of rfl))) rfl rfl rfl rfl rfl) ?_
  refine scons (CStep.step (PStep.c (p_or rfl (Sees.of rfl) (Sees.of rfl) (fun h => Sees.gv' rfl (beq_of_eq h)))) rfl rfl rfl rfl) ?_
  refine scons (CStep.step (PStep.c (p_assign (y := .val _) rfl (Sees.of rfl) rfl)) rfl rfl rfl rfl) ?_
  refine snil ?_
  refine f_ret ?_
  refine ends_ret (res_eq (res1 rfl (res_tmp rfl (Sees.of rfl))) ?_)
  rfl

theorem pair_spec  :
    Spec Go.Proofs.Try.prog 59 [] (cnf 2 Sp.two1) := by
  refine spec_of' Go.Proofs.Try.func59 rfl Go.Proofs.Try.ntmps59 rfl ?_
  refine f_seq ?_
  refine f_region ?_
  refine scons (r_alloc (ob := 10000) rfl wCd4_zer39 rfl rfl rfl rfl rfl rfl) ?_
  refine snil ?_
  refine f_seq ?_
  refine f_region ?_
  refine scons (CStep.step (c_buildSlice (f := di) (za := 0) (xs := [.const (.int .i64 1), .const (.int .i64 2)]) rfl rfl wCd4_isl33 wCd4_siz3 wCd4_zer3 rfl rfl ⟨_, _, rfl, (Sees.of rfl), rfl, rfl, ⟨_, _, rfl, (Sees.of rfl), rfl, rfl, rfl⟩⟩) rfl rfl rfl rfl) ?_
  refine scons (CStep.step (c_buildSlice (f := di) (za := 0) (xs := [.const (.int .i64 (-1))]) rfl rfl wCd4_isl33 wCd4_siz3 wCd4_zer3 rfl rfl ⟨_, _, rfl, (Sees.of rfl), rfl, rfl, rfl⟩) rfl rfl rfl rfl) ?_
  refine scons (CStep.step (c_buildSlice (f := ints) (za := []) (xs := [.tmp 1, .tmp 2]) rfl rfl wCd4_isl37 wCd4_siz33 wCd4_zer33 rfl rfl ⟨_, _, rfl, (Sees.of rfl), rfl, rfl, ⟨_, _, rfl, (Sees.of rfl), rfl, rfl, rfl⟩⟩) rfl rfl rfl rfl) ?_
  refine scons (CStep.step (PStep.c (p_build rfl wCd4_plc39 wCd4_zer39 (by decide) wCd4_zch39 ⟨_, _, _, rfl, rfl, rfl, (Sees.of rfl), ⟨_, _, _, rfl, rfl, rfl, (Sees.of rfl), rfl⟩⟩ rfl)) rfl rfl rfl rfl) ?_
  refine scons (r_storeS rfl wCd4_siz39 rfl rfl rfl (Sees.of rfl) rfl (Sees.of rfl) rfl rfl rfl rfl) ?_
  refine snil ?_
  refine f_ret ?_
  refine ends_ret (res_eq (res1 rfl (res_cell (by rfl) rfl rfl wCd4_agg39 wCd4_siz39 rfl rfl)) ?_)
  rfl

theorem against_spec  :
    Spec Go.Proofs.Try.prog 60 [] (cnf 2 Sp.two2) := by
  refine spec_of' Go.Proofs.Try.func60 rfl Go.Proofs.Try.ntmps60 rfl ?_
  refine f_seq ?_
  refine f_region ?_
  refine scons (r_alloc (ob := 10000) rfl wCd4_zer39 rfl rfl rfl rfl rfl rfl) ?_
  refine snil ?_
  refine f_seq ?_
  refine f_region ?_
  refine scons (CStep.step (c_buildSlice (f := di) (za := 0) (xs := [.const (.int .i64 1), .const (.int .i64 2)]) rfl rfl wCd4_isl33 wCd4_siz3 wCd4_zer3 rfl rfl ⟨_, _, rfl, (Sees.of rfl), rfl, rfl, ⟨_, _, rfl, (Sees.of rfl), rfl, rfl, rfl⟩⟩) rfl rfl rfl rfl) ?_
  refine scons (CStep.step (c_buildSlice (f := di) (za := 0) (xs := [.const (.int .i64 (-1))]) rfl rfl wCd4_isl33 wCd4_siz3 wCd4_zer3 rfl rfl ⟨_, _, rfl, (Sees.of rfl), rfl, rfl, rfl⟩) rfl rfl rfl rfl) ?_
  refine scons (CStep.step (c_buildSlice (f := di) (za := 0) (xs := [.const (.int .i64 (-2))]) rfl rfl wCd4_isl33 wCd4_siz3 wCd4_zer3 rfl rfl ⟨_, _, rfl, (Sees.of rfl), rfl, rfl, rfl⟩) rfl rfl rfl rfl) ?_
  refine scons (CStep.step (c_buildSlice (f := ints) (za := []) (xs := [.tmp 1, .tmp 2, .tmp 3]) rfl rfl wCd4_isl37 wCd4_siz33 wCd4_zer33 rfl rfl ⟨_, _, rfl, (Sees.of rfl), rfl, rfl, ⟨_, _, rfl, (Sees.of rfl), rfl, rfl, ⟨_, _, rfl, (Sees.of rfl), rfl, rfl, rfl⟩⟩⟩) rfl rfl rfl rfl) ?_
  refine scons (CStep.step (PStep.c (p_build rfl wCd4_plc39 wCd4_zer39 (by decide) wCd4_zch39 ⟨_, _, _, rfl, rfl, rfl, (Sees.of rfl), ⟨_, _, _, rfl, rfl, rfl, (Sees.of rfl), rfl⟩⟩ rfl)) rfl rfl rfl rfl) ?_
  refine scons (r_storeS rfl wCd4_siz39 rfl rfl rfl (Sees.of rfl) rfl (Sees.of rfl) rfl rfl rfl rfl) ?_
  refine snil ?_
  refine f_ret ?_
  refine ends_ret (res_eq (res1 rfl (res_cell (by rfl) rfl rfl wCd4_agg39 wCd4_siz39 rfl rfl)) ?_)
  rfl

theorem optionsWrong_spec (a b c d fuel : Int) :
    Spec Go.Proofs.Try.prog 58 [.val (opts a b c d), iv fuel] (D.bool (decide ((Sp.optW a b c d fuel).1 ≠ 0))) := by
  refine spec_of' Go.Proofs.Try.func58 rfl Go.Proofs.Try.ntmps58 rfl ?_
  refine f_seq ?_
  refine f_region ?_
  refine scons (r_box (ob := 10002) rfl (Sees.of rfl) rfl rfl rfl rfl rfl rfl) ?_
  refine scons (CStep.step (PStep.c (p_assign (y := .val _) rfl (Sees.of rfl) rfl)) rfl rfl rfl rfl) ?_
  refine snil ?_
  refine f_seq ?_
  refine f_region ?_
  refine scons (CStep.step (PStep.c (p_fieldRef rfl wCd4_fld41_0 wCd4_siz3 rfl (Sees.of rfl) rfl)) rfl rfl rfl rfl) ?_
  refine scons (CStep.step (PStep.c (p_loadB (y := .val _) rfl wCd4_agg3 (Sees.of rfl) rfl rfl rfl rfl)) rfl rfl rfl rfl) ?_
  refine scons (CStep.step (PStep.c (p_lss rfl (Sees.of rfl) (Sees.of rfl))) rfl rfl rfl rfl) ?_
  refine scons (CStep.step (PStep.c (p_move (y := .val _) rfl (Sees.of rfl) rfl)) rfl rfl rfl rfl) ?_
  refine scons (CStep.guard rfl rfl rfl (fun hg0 => PStep.c (p_fieldRef rfl wCd4_fld41_0 wCd4_siz3 rfl (Sees.of rfl) rfl)) rfl rfl rfl rfl rfl) ?_
  refine scons (CStep.guard rfl rfl rfl (fun hg0 => PStep.c (p_loadB (y := .val _) rfl wCd4_agg3 (Sees.gv' rfl hg0) rfl rfl rfl rfl)) rfl rfl rfl rfl rfl) ?_
  refine scons (CStep.guard rfl rfl rfl (fun hg0 => PStep.c (p_gtr rfl (Sees.gv' rfl hg0) (Sees.of rfl))) rfl rfl rfl rfl rfl) ?_
  refine scons (CStep.step (PStep.c (p_or rfl (Sees.of rfl) (Sees.of rfl) (fun h => Sees.gv' rfl (beq_of_eq h)))) rfl rfl rfl rfl) ?_
  refine scons (CStep.step (PStep.c (p_move (y := .val _) rfl (Sees.of rfl) rfl)) rfl rfl rfl rfl) ?_
  refine scons (CStep.guard rfl rfl rfl (fun hg0 => PStep.c (p_fieldRef rfl wCd4_fld41_1 wCd4_siz3 rfl (Sees.of rfl) rfl)) rfl rfl rfl rfl rfl) ?_
  refine scons (CStep.guard rfl rfl rfl (fun hg0 => PStep.c (p_loadB (y := .val _) rfl wCd4_agg3 (Sees.gv' rfl hg0) rfl rfl rfl rfl)) rfl rfl rfl rfl rfl) ?_
  refine scons (CStep.guard rfl rfl rfl (fun hg0 => PStep.c (p_lss rfl (Sees.gv' rfl hg0) (Sees.of rfl))) rfl rfl rfl rfl rfl) ?_
  refine scons (CStep.step (PStep.c (p_or rfl (Sees.of rfl) (Sees.of rfl) (fun h => Sees.gv' rfl (beq_of_eq h)))) rfl rfl rfl rfl) ?_
  refine scons (CStep.step (PStep.c (p_move (y := .val _) rfl (Sees.of rfl) rfl)) rfl rfl rfl rfl) ?_
  refine scons (CStep.guard rfl rfl rfl (fun hg0 => PStep.c (p_fieldRef rfl wCd4_fld41_1 wCd4_siz3 rfl (Sees.of rfl) rfl)) rfl rfl rfl rfl rfl) ?_
  refine scons (CStep.guard rfl rfl rfl (fun hg0 => PStep.c (p_loadB (y := .val _) rfl wCd4_agg3 (Sees.gv' rfl hg0) rfl rfl rfl rfl)) rfl rfl rfl rfl rfl) ?_
  refine scons (CStep.guard rfl rfl rfl (fun hg0 => PStep.c (p_gtr rfl (Sees.gv' rfl hg0) (Sees.of rfl))) rfl rfl rfl rfl rfl) ?_
  refine scons (CStep.step (PStep.c (p_or rfl (Sees.of rfl) (Sees.of rfl) (fun h => Sees.gv' rfl (beq_of_eq h)))) rfl rfl rfl rfl) ?_
  refine scons (CStep.step (PStep.c (p_move (y := .val _) rfl (Sees.of rfl) rfl)) rfl rfl rfl rfl) ?_
  refine scons (CStep.guard rfl rfl rfl (fun hg0 => PStep.c (p_fieldRef rfl wCd4_fld41_2 wCd4_siz3 rfl (Sees.of rfl) rfl)) rfl rfl rfl rfl rfl) ?_
  refine scons (CStep.guard rfl rfl rfl (fun hg0 => PStep.c (p_loadB (y := .val _) rfl wCd4_agg3 (Sees.gv' rfl hg0) rfl rfl rfl rfl)) rfl rfl rfl rfl rfl) ?_
  refine scons (CStep.guard rfl rfl rfl (fun hg0 => PStep.c (p_lss rfl (Sees.gv' rfl hg0) (Sees.of rfl))) rfl rfl rfl rfl rfl) ?_
  refine scons (CStep.step (PStep.c (p_or rfl (Sees.of rfl) (Sees.of rfl) (fun h => Sees.gv' rfl (beq_of_eq h)))) rfl rfl rfl rfl) ?_
  refine scons (CStep.step (PStep.c (p_move (y := .val _) rfl (Sees.of rfl) rfl)) rfl rfl rfl rfl) ?_
  refine scons (CStep.guard rfl rfl rfl (fun hg0 => PStep.c (p_fieldRef rfl wCd4_fld41_2 wCd4_siz3 rfl (Sees.of rfl) rfl)) rfl rfl rfl rfl rfl) ?_
  refine scons (CStep.guard rfl rfl rfl (fun hg0 => PStep.c (p_loadB (y := .val _) rfl wCd4_agg3 (Sees.gv' rfl hg0) rfl rfl rfl rfl)) rfl rfl rfl rfl rfl) ?_
  refine scons (CStep.guard rfl rfl rfl (fun hg0 => PStep.c (p_gtr rfl (Sees.gv' rfl hg0) (Sees.of rfl))) rfl rfl rfl rfl rfl) ?_
  refine scons (CStep.step (PStep.c (p_or rfl (Sees.of rfl) (Sees.of rfl) (fun h => Sees.gv' rfl (beq_of_eq h)))) rfl rfl rfl rfl) ?_
  refine scons (CStep.step (PStep.c (p_move (y := .val _) rfl (Sees.of rfl) rfl)) rfl rfl rfl rfl) ?_
  refine scons (CStep.guard rfl rfl rfl (fun hg0 => PStep.c (p_fieldRef rfl wCd4_fld41_3 wCd4_siz3 rfl (Sees.of rfl) rfl)) rfl rfl rfl rfl rfl) ?_
  refine scons (CStep.guard rfl rfl rfl (fun hg0 => PStep.c (p_loadB (y := .val _) rfl wCd4_agg3 (Sees.gv' rfl hg0) rfl rfl rfl rfl)) rfl rfl rfl rfl rfl) ?_
  refine scons (CStep.guard rfl rfl rfl (fun hg0 => PStep.c (p_lss rfl (Sees.gv' rfl hg0) (Sees.of rfl))) rfl rfl rfl rfl rfl) ?_
  refine scons (CStep.step (PStep.c (p_or rfl (Sees.of rfl) (Sees.of rfl) (fun h => Sees.gv' rfl (beq_of_eq h)))) rfl rfl rfl rfl) ?_
  refine scons (CStep.step (PStep.c (p_move (y := .val _) rfl (Sees.of rfl) rfl)) rfl rfl rfl rfl) ?_
  refine scons (CStep.guard rfl rfl rfl (fun hg0 => PStep.c (p_fieldRef rfl wCd4_fld41_3 wCd4_siz3 rfl (Sees.of rfl) rfl)) rfl rfl rfl rfl rfl) ?_
  refine scons (CStep.guard rfl rfl rfl (fun hg0 => PStep.c (p_loadB (y := .val _) rfl wCd4_agg3 (Sees.gv' rfl hg0) rfl rfl rfl rfl)) rfl rfl rfl rfl rfl) ?_
  refine scons (CStep.guard rfl rfl rfl (fun hg0 => PStep.c (p_gtr rfl (Sees.gv' rfl hg0) (Sees.of rfl))) rfl rfl rfl rfl rfl) ?_
  refine scons (CStep.step (PStep.c (p_or rfl (Sees.of rfl) (Sees.of rfl) (fun h => Sees.gv' rfl (beq_of_eq h)))) rfl rfl rfl rfl) ?_
  refine scons (CStep.step (PStep.c (p_move (y := .val _) rfl (Sees.of rfl) rfl)) rfl rfl rfl rfl) ?_
  refine scons (CStep.guard rfl rfl rfl (fun hg0 => PStep.c (p_move (y := .val _) rfl (Sees.of rfl) rfl)) rfl rfl rfl rfl rfl) ?_
  refine scons (CStep.guard rfl rfl rfl (fun hg0 => PStep.c (p_lss rfl (Sees.gv' rfl hg0) (Sees.of rfl))) rfl rfl rfl rfl rfl) ?_
  refine scons (CStep.step (PStep.c (p_or rfl (Sees.of rfl) (Sees.of rfl) (fun h => Sees.gv' rfl (beq_of_eq h)))) rfl rfl rfl rfl) ?_
  refine scons (CStep.step (PStep.c (p_move (y := .val _) rfl (Sees.of rfl) rfl)) rfl rfl rfl rfl) ?_
  refine scons (CStep.guard rfl rfl rfl (fun hg0 => PStep.c (p_move (y := .val _) rfl (Sees.of rfl) rfl)) rfl rfl rfl rfl rfl) ?_
  refine scons (CStep.guard rfl rfl rfl (fun hg0 => PStep.c (p_gtr rfl (Sees.gv' rfl hg0) (Sees.of rfl))) rfl rfl rfl rfl rfl) ?_
  refine scons (CStep.step (PStep.c (p_or rfl (Sees.of rfl) (Sees.of rfl) (fun h => Sees.gv' rfl (beq_of_eq h)))) rfl rfl rfl rfl) ?_
  refine scons (CStep.step (PStep.c (p_assign (y := .val _) rfl (Sees.of rfl) rfl)) rfl rfl rfl rfl) ?_
  refine snil ?_
  refine f_ret ?_
  refine ends_ret (res_eq (res1 rfl (res_tmp rfl (Sees.of rfl))) ?_)
  congr 1
  rw [Bool.eq_iff_iff]
  simp only [decide_eq_true_eq, ne_eq, Sp.opt_iff, Bool.or_eq_true]
  omega

theorem cdclFault_spec (n : Int) (ls : List (List Int)) (asked : List Int) (a b c d fuel : Int) :
    Spec Go.Proofs.Try.prog 19 [.val (cnf n ls), .val (ints asked), .val (opts a b c d), iv fuel] (fault (Sp.cdF n ls asked a b c d fuel).1 (Sp.cdF n ls asked a b c d fuel).2) := by
  refine spec_of' Go.Proofs.Try.func19 rfl Go.Proofs.Try.ntmps19 rfl ?_
  refine f_seq ?_
  refine f_region ?_
  refine scons (r_box (ob := 10004) rfl (Sees.of rfl) rfl rfl rfl rfl rfl rfl) ?_
  refine scons (r_box (ob := 10006) rfl (Sees.of rfl) rfl rfl rfl rfl rfl rfl) ?_
  refine scons (r_alloc (ob := 10008) rfl wCd4_zer26 rfl rfl rfl rfl rfl rfl) ?_
  refine snil ?_
  refine f_seq ?_
  refine f_region ?_
  refine scons (CStep.step (PStep.c (p_loadBS rfl wCd4_agg39 wCd4_siz39 (Sees.of rfl) rfl rfl rfl)) rfl rfl rfl rfl) ?_
  refine scons (CStep.step (PStep.c (p_move (y := .val _) rfl (Sees.of rfl) rfl)) rfl rfl rfl rfl) ?_
  refine scons (CStep.step (c_call rfl wCd4_isf57 ⟨_, _, rfl, (Sees.of rfl), rfl, ⟨_, _, rfl, (Sees.of rfl), rfl, rfl⟩⟩ (beside_spec n ls asked)) rfl rfl rfl rfl) ?_
  refine scons (r_alloc (ob := 10009) rfl wCd4_zer26 rfl rfl rfl rfl rfl rfl) ?_
  refine scons (r_storeS rfl wCd4_siz26 rfl rfl rfl (Sees.of rfl) rfl (Sees.of rfl) rfl rfl rfl rfl) ?_
  refine snil ?_
  refine f_seq ?_
  refine f_seq ?_
  refine f_region ?_
  refine scons (CStep.step (PStep.c (p_fieldRef rfl wCd4_fld26_0 wCd4_siz3 rfl (Sees.of rfl) rfl)) rfl rfl rfl rfl) ?_
  refine scons (CStep.step (PStep.c (p_loadB (y := .val _) rfl wCd4_agg3 (Sees.of rfl) rfl rfl rfl rfl)) rfl rfl rfl rfl) ?_
  refine scons (CStep.step (PStep.c (p_eql rfl (Sees.of rfl) (Sees.of rfl))) rfl rfl rfl rfl) ?_
  refine scons (CStep.step (PStep.c (p_move (y := .val _) rfl (Sees.of rfl) rfl)) rfl rfl rfl rfl) ?_
  refine scons (CStep.guard rfl rfl rfl (fun hg0 => PStep.c (p_loadBS rfl wCd4_agg41 wCd4_siz41 (Sees.of rfl) rfl rfl rfl)) rfl rfl rfl rfl rfl) ?_
  refine scons (CStep.guard rfl rfl rfl (fun hg0 => PStep.c (p_move (y := .val _) rfl (Sees.of rfl) rfl)) rfl rfl rfl rfl rfl) ?_
  refine scons (CStep.guard rfl rfl rfl (fun hg0 => c_call rfl wCd4_isf58 ⟨_, _, rfl, (Sees.gv' rfl hg0), rfl, ⟨_, _, rfl, (Sees.gv' rfl hg0), rfl, rfl⟩⟩ (optionsWrong_spec a b c d fuel)) rfl rfl rfl rfl rfl) ?_
  refine scons (CStep.step (PStep.c (p_and rfl (Sees.of rfl) (fun h => Sees.gv' rfl (beq_of_eq h)) (Sees.of rfl))) rfl rfl rfl rfl) ?_
  refine snil ?_
  refine f_cond rfl ?_ ?_
  · intro hc1
    try simp only [bs] at hc1
    refine f_region ?_
    refine scons (CStep.step (PStep.c (p_build rfl wCd4_plc26 wCd4_zer26 (by decide) wCd4_zch26 ⟨_, _, _, rfl, rfl, rfl, (Sees.of rfl), ⟨_, _, _, rfl, rfl, rfl, (Sees.of rfl), rfl⟩⟩ rfl)) rfl rfl rfl rfl) ?_
    refine scons (r_storeS rfl wCd4_siz26 rfl rfl rfl (Sees.of rfl) rfl (Sees.of rfl) rfl rfl rfl rfl) ?_
    refine snil ?_
    refine f_seq ?_
    refine f_region ?_
    refine scons (CStep.step (PStep.c (p_loadBS rfl wCd4_agg26 wCd4_siz26 (Sees.of rfl) rfl rfl rfl)) rfl rfl rfl rfl) ?_
    refine scons (r_storeS rfl wCd4_siz26 rfl rfl rfl (Sees.of rfl) rfl (Sees.of rfl) rfl rfl rfl rfl) ?_
    refine snil ?_
    refine f_ret ?_
    refine ends_ret (res_eq (res1 rfl (res_cell (by rfl) rfl rfl wCd4_agg26 wCd4_siz26 rfl rfl)) ?_)
    rw [Sp.cdF, if_pos (by simpa using hc1)]
    all_goals rfl
  · intro hc1
    try simp only [bs] at hc1
    refine f_skip ?_
    refine f_seq ?_
    refine f_region ?_
    refine scons (CStep.step (PStep.c (p_loadBS rfl wCd4_agg26 wCd4_siz26 (Sees.of rfl) rfl rfl rfl)) rfl rfl rfl rfl) ?_
    refine scons (r_storeS rfl wCd4_siz26 rfl rfl rfl (Sees.of rfl) rfl (Sees.of rfl) rfl rfl rfl rfl) ?_
    refine snil ?_
    refine f_ret ?_
    refine ends_ret (res_eq (res1 rfl (res_cell (by rfl) rfl rfl wCd4_agg26 wCd4_siz26 rfl rfl)) ?_)
    rw [Sp.cdF, if_neg (fun h => by simp [h.1, h.2] at hc1)]
    all_goals rfl

theorem plain_spec (st : Int) (h : List Bool) (l : List (Int × List Int)) (co : List Int) (u : Int) :
    Spec Go.Proofs.Try.prog 22 [.val (ans st h l co u)] (D.bool (decide (h = []) && decide (l = []) && decide (co = []))) := by
  refine spec_of' Go.Proofs.Try.func22 rfl Go.Proofs.Try.ntmps22 rfl ?_
  refine f_seq ?_
  refine f_region ?_
  refine scons (r_box (ob := 10001) rfl (Sees.of rfl) rfl rfl rfl rfl rfl rfl) ?_
  refine scons (CStep.step (PStep.c (p_assign (y := .val _) rfl (Sees.of rfl) rfl)) rfl rfl rfl rfl) ?_
  refine snil ?_
  refine f_seq ?_
  refine f_region ?_
  refine scons (CStep.step (PStep.c (p_fieldRef rfl wCd4_fld46_1 wCd4_siz24 rfl (Sees.of rfl) rfl)) rfl rfl rfl rfl) ?_
  refine scons (CStep.step (PStep.c (p_loadB (y := .val _) rfl wCd4_agg24 (Sees.of rfl) rfl rfl rfl rfl)) rfl rfl rfl rfl) ?_
  refine scons (CStep.step (PStep.c (p_len rfl wCd4_isl24 (Sees.of rfl))) rfl rfl rfl rfl) ?_
  refine scons (CStep.step (PStep.c (p_eql rfl (Sees.of rfl) (Sees.of rfl))) rfl rfl rfl rfl) ?_
  refine scons (CStep.step (PStep.c (p_move (y := .val _) rfl (Sees.of rfl) rfl)) rfl rfl rfl rfl) ?_
  refine scons (CStep.guard rfl rfl rfl (fun hg0 => PStep.c (p_fieldRef rfl wCd4_fld46_2 wCd4_siz44 rfl (Sees.of rfl) rfl)) rfl rfl rfl rfl rfl) ?_
  refine scons (CStep.guard rfl rfl rfl (fun hg0 => PStep.c (p_loadB (y := .val _) rfl wCd4_agg44 (Sees.gv' rfl hg0) rfl rfl rfl rfl)) rfl rfl rfl rfl rfl) ?_
  refine scons (CStep.guard rfl rfl rfl (fun hg0 => PStep.c (p_len rfl wCd4_isl44 (Sees.gv' rfl hg0))) rfl rfl rfl rfl rfl) ?_
  refine scons (CStep.guard rfl rfl rfl (fun hg0 => PStep.c (p_eql rfl (Sees.gv' rfl hg0) (Sees.of rfl))) rfl rfl rfl rfl rfl) ?_
  refine scons (CStep.step (PStep.c (p_and rfl (Sees.of rfl) (fun h => Sees.gv' rfl (beq_of_eq h)) (Sees.of rfl))) rfl rfl rfl rfl) ?_
  refine scons (CStep.step (PStep.c (p_move (y := .val _) rfl (Sees.of rfl) rfl)) rfl rfl rfl rfl) ?_
  refine scons (CStep.guard rfl rfl rfl (fun hg0 => PStep.c (p_fieldRef rfl wCd4_fld46_3 wCd4_siz33 rfl (Sees.of rfl) rfl)) rfl rfl rfl rfl rfl) ?_
  refine scons (CStep.guard rfl rfl rfl (fun hg0 => PStep.c (p_loadB (y := .val _) rfl wCd4_agg33 (Sees.gv' rfl hg0) rfl rfl rfl rfl)) rfl rfl rfl rfl rfl) ?_
  refine scons (CStep.guard rfl rfl rfl (fun hg0 => PStep.c (p_len rfl wCd4_isl33 (Sees.gv' rfl hg0))) rfl rfl rfl rfl rfl) ?_
  refine scons (CStep.guard rfl rfl rfl (fun hg0 => PStep.c (p_eql rfl (Sees.gv' rfl hg0) (Sees.of rfl))) rfl rfl rfl rfl rfl) ?_
  refine scons (CStep.step (PStep.c (p_and rfl (Sees.of rfl) (fun h => Sees.gv' rfl (beq_of_eq h)) (Sees.of rfl))) rfl rfl rfl rfl) ?_
  refine scons (CStep.step (PStep.c (p_assign (y := .val _) rfl (Sees.of rfl) rfl)) rfl rfl rfl rfl) ?_
  refine snil ?_
  refine f_ret ?_
  refine ends_ret (res_eq (res1 rfl (res_tmp rfl (Sees.of rfl))) ?_)
  simp

theorem sure_spec  :
    Spec Go.Proofs.Try.prog 20 [] (D.bool true) := by
  refine spec_of' Go.Proofs.Try.func20 rfl Go.Proofs.Try.ntmps20 rfl ?_
  refine f_seq ?_
  refine f_region ?_
  refine scons (CStep.step (PStep.c (p_assign (y := .val _) rfl (Sees.of rfl) rfl)) rfl rfl rfl rfl) ?_
  refine snil ?_
  refine f_seq ?_
  refine f_region ?_
  refine scons (CStep.step (c_call rfl wCd4_isf59 rfl (pair_spec)) rfl rfl rfl rfl) ?_
  refine scons (CStep.step (PStep.c (p_build rfl wCd4_plc41 wCd4_zer41 (by decide) wCd4_zch41 rfl rfl)) rfl rfl rfl rfl) ?_
  refine scons (CStep.step (c_call rfl wCd4_isf21 ⟨_, _, rfl, (Sees.of rfl), rfl, ⟨_, _, rfl, (Sees.emp rfl _ _ _), rfl, ⟨_, _, rfl, (Sees.of rfl), rfl, ⟨_, _, rfl, (Sees.of rfl), rfl, rfl⟩⟩⟩⟩ (Do_spec 2 Sp.two1 [] 0 0 0 0 2000)) rfl rfl rfl rfl) ?_
  refine scons (CStep.step (PStep.c (p_move (y := .val _) rfl (Sees.of rfl) rfl)) rfl rfl rfl rfl) ?_
  refine scons (CStep.step (PStep.c (p_extract rfl (Sees.of rfl) rfl)) rfl rfl rfl rfl) ?_
  refine scons (CStep.step (PStep.c (p_extract rfl (Sees.of rfl) rfl)) rfl rfl rfl rfl) ?_
  refine scons (r_alloc (ob := 10001) rfl wCd4_zer46 rfl rfl rfl rfl rfl rfl) ?_
  refine scons (r_alloc (ob := 10002) rfl wCd4_zer26 rfl rfl rfl rfl rfl rfl) ?_
  refine scons (r_storeS rfl wCd4_siz46 rfl rfl rfl (Sees.of rfl) rfl (Sees.of rfl) rfl rfl rfl rfl) ?_
  refine scons (r_storeS rfl wCd4_siz26 rfl rfl rfl (Sees.of rfl) rfl (Sees.of rfl) rfl rfl rfl rfl) ?_
  refine snil ?_
  refine f_seq ?_
  refine f_region ?_
  refine scons (CStep.step (c_call rfl wCd4_isf60 rfl (against_spec)) rfl rfl rfl rfl) ?_
  refine scons (CStep.step (PStep.c (p_build rfl wCd4_plc41 wCd4_zer41 (by decide) wCd4_zch41 rfl rfl)) rfl rfl rfl rfl) ?_
  refine scons (CStep.step (c_call rfl wCd4_isf21 ⟨_, _, rfl, (Sees.of rfl), rfl, ⟨_, _, rfl, (Sees.emp rfl _ _ _), rfl, ⟨_, _, rfl, (Sees.of rfl), rfl, ⟨_, _, rfl, (Sees.of rfl), rfl, rfl⟩⟩⟩⟩ (Do_spec 2 Sp.two2 [] 0 0 0 0 2000)) rfl rfl rfl rfl) ?_
  refine scons (CStep.step (PStep.c (p_move (y := .val _) rfl (Sees.of rfl) rfl)) rfl rfl rfl rfl) ?_
  refine scons (CStep.step (PStep.c (p_extract rfl (Sees.of rfl) rfl)) rfl rfl rfl rfl) ?_
  refine scons (CStep.step (PStep.c (p_extract rfl (Sees.of rfl) rfl)) rfl rfl rfl rfl) ?_
  refine scons (r_alloc (ob := 10003) rfl wCd4_zer46 rfl rfl rfl rfl rfl rfl) ?_
  refine scons (r_alloc (ob := 10004) rfl wCd4_zer26 rfl rfl rfl rfl rfl rfl) ?_
  refine scons (r_storeS rfl wCd4_siz46 rfl rfl rfl (Sees.of rfl) rfl (Sees.of rfl) rfl rfl rfl rfl) ?_
  refine scons (r_storeS rfl wCd4_siz26 rfl rfl rfl (Sees.of rfl) rfl (Sees.of rfl) rfl rfl rfl rfl) ?_
  refine snil ?_
  refine f_seq ?_
  refine f_region ?_
  refine scons (CStep.step (PStep.c (p_fieldRef rfl wCd4_fld26_0 wCd4_siz3 rfl (Sees.of rfl) rfl)) rfl rfl rfl rfl) ?_
  refine scons (CStep.step (PStep.c (p_loadB (y := .val _) rfl wCd4_agg3 (Sees.of rfl) rfl rfl rfl rfl)) rfl rfl rfl rfl) ?_
  refine scons (CStep.step (PStep.c (p_eql rfl (Sees.of rfl) (Sees.of rfl))) rfl rfl rfl rfl) ?_
  refine scons (CStep.step (PStep.c (p_move (y := .val _) rfl (Sees.of rfl) rfl)) rfl rfl rfl rfl) ?_
  refine scons (CStep.guard rfl rfl rfl (fun hg0 => PStep.c (p_fieldRef rfl wCd4_fld26_0 wCd4_siz3 rfl (Sees.of rfl) rfl)) rfl rfl rfl rfl rfl) ?_
  refine scons (CStep.guard rfl rfl rfl (fun hg0 => PStep.c (p_loadB (y := .val _) rfl wCd4_agg3 (Sees.gv' rfl hg0) rfl rfl rfl rfl)) rfl rfl rfl rfl rfl) ?_
  refine scons (CStep.guard rfl rfl rfl (fun hg0 => PStep.c (p_eql rfl (Sees.gv' rfl hg0) (Sees.of rfl))) rfl rfl rfl rfl rfl) ?_
  refine scons (CStep.step (PStep.c (p_and rfl (Sees.of rfl) (fun h => Sees.gv' rfl (beq_of_eq h)) (Sees.of rfl))) rfl rfl rfl rfl) ?_
  refine scons (CStep.step (PStep.c (p_move (y := .val _) rfl (Sees.of rfl) rfl)) rfl rfl rfl rfl) ?_
  refine scons (CStep.guard rfl rfl rfl (fun hg0 => PStep.c (p_fieldRef rfl wCd4_fld46_0 wCd4_siz3 rfl (Sees.of rfl) rfl)) rfl rfl rfl rfl rfl) ?_
  refine scons (CStep.guard rfl rfl rfl (fun hg0 => PStep.c (p_loadB (y := .val _) rfl wCd4_agg3 (Sees.gv' rfl hg0) rfl rfl rfl rfl)) rfl rfl rfl rfl rfl) ?_
  refine scons (CStep.guard rfl rfl rfl (fun hg0 => PStep.c (p_eql rfl (Sees.gv' rfl hg0) (Sees.of rfl))) rfl rfl rfl rfl rfl) ?_
  refine scons (CStep.step (PStep.c (p_and rfl (Sees.of rfl) (fun h => Sees.gv' rfl (beq_of_eq h)) (Sees.of rfl))) rfl rfl rfl rfl) ?_
  refine scons (CStep.step (PStep.c (p_move (y := .val _) rfl (Sees.of rfl) rfl)) rfl rfl rfl rfl) ?_
  refine scons (CStep.guard rfl rfl rfl (fun hg0 => PStep.c (p_fieldRef rfl wCd4_fld46_0 wCd4_siz3 rfl (Sees.of rfl) rfl)) rfl rfl rfl rfl rfl) ?_
  refine scons (CStep.guard rfl rfl rfl (fun hg0 => PStep.c (p_loadB (y := .val _) rfl wCd4_agg3 (Sees.gv' rfl hg0) rfl rfl rfl rfl)) rfl rfl rfl rfl rfl) ?_
  refine scons (CStep.guard rfl rfl rfl (fun hg0 => PStep.c (p_eql rfl (Sees.gv' rfl hg0) (Sees.of rfl))) rfl rfl rfl rfl rfl) ?_
  refine scons (CStep.step (PStep.c (p_and rfl (Sees.of rfl) (fun h => Sees.gv' rfl (beq_of_eq h)) (Sees.of rfl))) rfl rfl rfl rfl) ?_
  refine scons (CStep.step (PStep.c (p_assign (y := .val _) rfl (Sees.of rfl) rfl)) rfl rfl rfl rfl) ?_
  refine snil ?_
  refine f_ret ?_
  refine ends_ret (res_eq (res1 rfl (res_tmp rfl (Sees.of rfl))) ?_)
  rw [Sp.sure1.1, Sp.sure1.2, Sp.sure2.1, Sp.sure2.2]
  rfl

end Go.Um
