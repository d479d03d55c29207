/- Walks of Go functions of this seat, each by its contract. No condition beyond what each theorem says. -/
import Derived.Test.YtfjafkocejoigaaWBet4
import Derived.Test.YtfjafkocejoigaaProg
import Derived.KernelRfl
import Derived.Test.YtfjafkocejoigaaQ
set_option maxRecDepth 4000
namespace Go.Um
open Go Go.RowKit

theorem wBet5_agg22 : IsAgg Go.Proofs.Try.prog 22 false := by unfold IsAgg; kernel_rfl
theorem wBet5_agg24 : IsAgg Go.Proofs.Try.prog 24 true := by unfold IsAgg; kernel_rfl
theorem wBet5_agg29 : IsAgg Go.Proofs.Try.prog 29 true := by unfold IsAgg; kernel_rfl
theorem wBet5_agg3 : IsAgg Go.Proofs.Try.prog 3 false := by unfold IsAgg; kernel_rfl
theorem wBet5_fld24_0 : IsField Go.Proofs.Try.prog 24 0 0 3 := by unfold IsField; kernel_rfl
theorem wBet5_fld24_1 : IsField Go.Proofs.Try.prog 24 1 1 22 := by unfold IsField; kernel_rfl
theorem wBet5_fld31_0 : IsField Go.Proofs.Try.prog 31 0 0 3 := by unfold IsField; kernel_rfl
theorem wBet5_isf16 : IsFn Go.Proofs.Try.prog 16 := by unfold IsFn; kernel_rfl
theorem wBet5_isf17 : IsFn Go.Proofs.Try.prog 17 := by unfold IsFn; kernel_rfl
theorem wBet5_isf18 : IsFn Go.Proofs.Try.prog 18 := by unfold IsFn; kernel_rfl
theorem wBet5_isf19 : IsFn Go.Proofs.Try.prog 19 := by unfold IsFn; kernel_rfl
theorem wBet5_isf20 : IsFn Go.Proofs.Try.prog 20 := by unfold IsFn; kernel_rfl
theorem wBet5_isf6 : IsFn Go.Proofs.Try.prog 6 := by unfold IsFn; kernel_rfl
theorem wBet5_isf7 : IsFn Go.Proofs.Try.prog 7 := by unfold IsFn; kernel_rfl
theorem wBet5_isl22 : IsSlice Go.Proofs.Try.prog 22 73 := by unfold IsSlice; kernel_rfl
theorem wBet5_isl25 : IsSlice Go.Proofs.Try.prog 25 78 := by unfold IsSlice; kernel_rfl
theorem wBet5_isl27 : IsSlice Go.Proofs.Try.prog 27 80 := by unfold IsSlice; kernel_rfl
theorem wBet5_isl73 : IsSlice Go.Proofs.Try.prog 73 3 := by unfold IsSlice; kernel_rfl
theorem wBet5_mix : (Go.Proofs.Try.prog).follows .mixedOrders = true := by kernel_rfl
theorem wBet5_plc24 : Places Go.Proofs.Try.prog 24 [(0, 1), (1, 1)] := by unfold Places; kernel_rfl
theorem wBet5_plc29 : Places Go.Proofs.Try.prog 29 [(0, 1), (1, 1)] := by unfold Places; kernel_rfl
theorem wBet5_plc78 : Places Go.Proofs.Try.prog 78 [(0, 1), (1, 1), (2, 1)] := by unfold Places; kernel_rfl
theorem wBet5_plc80 : Places Go.Proofs.Try.prog 80 [(0, 1), (1, 1), (2, 1)] := by unfold Places; kernel_rfl
theorem wBet5_siz22 : Size Go.Proofs.Try.prog 22 1 := by unfold Size; kernel_rfl
theorem wBet5_siz24 : Size Go.Proofs.Try.prog 24 2 := by unfold Size; kernel_rfl
theorem wBet5_siz29 : Size Go.Proofs.Try.prog 29 2 := by unfold Size; kernel_rfl
theorem wBet5_siz3 : Size Go.Proofs.Try.prog 3 1 := by unfold Size; kernel_rfl
theorem wBet5_siz31 : Size Go.Proofs.Try.prog 31 2 := by unfold Size; kernel_rfl
theorem wBet5_siz73 : Size Go.Proofs.Try.prog 73 1 := by unfold Size; kernel_rfl
theorem wBet5_siz78 : Size Go.Proofs.Try.prog 78 3 := by unfold Size; kernel_rfl
theorem wBet5_siz80 : Size Go.Proofs.Try.prog 80 3 := by unfold Size; kernel_rfl
def wBet5_z24 : D := .cons (.int .i64 0) (.cons (intss []) (.nil))
theorem wBet5_zch24 : ∀ (ok : Nat → Prop) (w : World), R Go.Proofs.Try.prog wBet5_z24 ok w (Value.cells (.agg #[(.int .i64 0), (.slice none 0 0)])).toList := fun _ _ => z_int (z_list (z_nil))
def wBet5_z29 : D := .cons (chos []) (.cons (.int .i64 0) (.nil))
theorem wBet5_zch29 : ∀ (ok : Nat → Prop) (w : World), R Go.Proofs.Try.prog wBet5_z29 ok w (Value.cells (.agg #[(.slice none 0 0), (.int .i64 0)])).toList := fun _ _ => z_list (z_int (z_nil))
def wBet5_z78 : D := .cons (.int .i64 0) (.cons (.int .i64 0) (.cons (.int .i64 0) (.nil)))
theorem wBet5_zch78 : ∀ (ok : Nat → Prop) (w : World), R Go.Proofs.Try.prog wBet5_z78 ok w (Value.cells (.agg #[(.int .i64 0), (.int .i64 0), (.int .i64 0)])).toList := fun _ _ => z_int (z_int (z_int (z_nil)))
def wBet5_z80 : D := .cons (.int .i64 0) (.cons (.int .i64 0) (.cons (.int .i64 0) (.nil)))
theorem wBet5_zch80 : ∀ (ok : Nat → Prop) (w : World), R Go.Proofs.Try.prog wBet5_z80 ok w (Value.cells (.agg #[(.int .i64 0), (.int .i64 0), (.int .i64 0)])).toList := fun _ _ => z_int (z_int (z_int (z_nil)))
theorem wBet5_zer24 : Zero Go.Proofs.Try.prog 24 (.agg #[(.int .i64 0), (.slice none 0 0)]) := by unfold Zero; kernel_rfl
theorem wBet5_zer29 : Zero Go.Proofs.Try.prog 29 (.agg #[(.slice none 0 0), (.int .i64 0)]) := by unfold Zero; kernel_rfl
theorem wBet5_zer3 : Zero Go.Proofs.Try.prog 3 (.int .i64 0) := by unfold Zero; kernel_rfl
theorem wBet5_zer31 : Zero Go.Proofs.Try.prog 31 (.agg #[(.int .i64 0), (.int .i64 0)]) := by unfold Zero; kernel_rfl
theorem wBet5_zer73 : Zero Go.Proofs.Try.prog 73 (.slice none 0 0) := by unfold Zero; kernel_rfl
theorem wBet5_zer78 : Zero Go.Proofs.Try.prog 78 (.agg #[(.int .i64 0), (.int .i64 0), (.int .i64 0)]) := by unfold Zero; kernel_rfl
theorem wBet5_zer80 : Zero Go.Proofs.Try.prog 80 (.agg #[(.int .i64 0), (.int .i64 0), (.int .i64 0)]) := by unfold Zero; kernel_rfl

theorem first_spec  :
    Spec Go.Proofs.Try.prog 16 [] (cnf 2 Sp.exA) := by
  refine spec_of' Go.Proofs.Try.func16 rfl Go.Proofs.Try.ntmps16 rfl ?_
  refine f_seq (f_region ?_); refine scons (r_alloc (ob := 10000) rfl wBet5_zer24 rfl rfl rfl rfl rfl rfl) (snil (f_seq (f_region ?_))); refine zc (c_buildSlice (f := di) (za := 0) (xs := [.const (.int .i64 1)]) rfl rfl wBet5_isl73 wBet5_siz3 wBet5_zer3 rfl rfl ⟨_, _, rfl, Zz, rfl, rfl, rfl⟩) rfl ?_; refine zc (c_buildSlice (f := di) (za := 0) (xs := [.const (.int .i64 (-1)), .const (.int .i64 2)]) rfl rfl wBet5_isl73 wBet5_siz3 wBet5_zer3 rfl rfl ⟨_, _, rfl, Zz, rfl, rfl, ⟨_, _, rfl, Zz, rfl, rfl, rfl⟩⟩) rfl ?_; refine zc (c_buildSlice (f := ints) (za := []) (xs := [.tmp 1, .tmp 2]) rfl rfl wBet5_isl22 wBet5_siz73 wBet5_zer73 rfl rfl ⟨_, _, rfl, Zz, rfl, rfl, ⟨_, _, rfl, Zz, rfl, rfl, rfl⟩⟩) rfl ?_; refine zq (p_build rfl wBet5_plc24 wBet5_zer24 (by decide) wBet5_zch24 ⟨_, _, _, rfl, rfl, rfl, Zz, ⟨_, _, _, rfl, rfl, rfl, Zz, rfl⟩⟩ rfl) rfl ?_; refine scons (r_storeS rfl wBet5_siz24 rfl rfl rfl Zz rfl Zz rfl rfl rfl rfl) (snil (f_ret ?_))
  refine ends_ret (res_eq (res1 rfl (res_cell (by rfl) rfl rfl wBet5_agg24 wBet5_siz24 rfl rfl)) ?_)
  rfl

theorem second_spec  :
    Spec Go.Proofs.Try.prog 17 [] (cnf 2 Sp.exB) := by
  refine spec_of' Go.Proofs.Try.func17 rfl Go.Proofs.Try.ntmps17 rfl ?_
  refine f_seq (f_region ?_); refine scons (r_alloc (ob := 10000) rfl wBet5_zer24 rfl rfl rfl rfl rfl rfl) (snil (f_seq (f_region ?_))); refine zc (c_buildSlice (f := di) (za := 0) (xs := [.const (.int .i64 (-2))]) rfl rfl wBet5_isl73 wBet5_siz3 wBet5_zer3 rfl rfl ⟨_, _, rfl, Zz, rfl, rfl, rfl⟩) rfl ?_; refine zc (c_buildSlice (f := ints) (za := []) (xs := [.tmp 1]) rfl rfl wBet5_isl22 wBet5_siz73 wBet5_zer73 rfl rfl ⟨_, _, rfl, Zz, rfl, rfl, rfl⟩) rfl ?_; refine zq (p_build rfl wBet5_plc24 wBet5_zer24 (by decide) wBet5_zch24 ⟨_, _, _, rfl, rfl, rfl, Zz, ⟨_, _, _, rfl, rfl, rfl, Zz, rfl⟩⟩ rfl) rfl ?_; refine scons (r_storeS rfl wBet5_siz24 rfl rfl rfl Zz rfl Zz rfl rfl rfl rfl) (snil (f_ret ?_))
  refine ends_ret (res_eq (res1 rfl (res_cell (by rfl) rfl rfl wBet5_agg24 wBet5_siz24 rfl rfl)) ?_)
  rfl

theorem proof_spec  :
    Spec Go.Proofs.Try.prog 18 [] (chos Sp.exL) := by
  refine spec_of' Go.Proofs.Try.func18 rfl Go.Proofs.Try.ntmps18 rfl ?_
  refine f_seq (f_region (zm5 rfl rfl rfl (snil (f_seq (f_region ?_))))); refine zq (p_build rfl wBet5_plc78 wBet5_zer78 (by decide) wBet5_zch78 ⟨_, _, _, rfl, rfl, rfl, Zz, ⟨_, _, _, rfl, rfl, rfl, Zz, ⟨_, _, _, rfl, rfl, rfl, Zz, rfl⟩⟩⟩ rfl) rfl ?_; refine zq (p_build rfl wBet5_plc78 wBet5_zer78 (by decide) wBet5_zch78 ⟨_, _, _, rfl, rfl, rfl, Zz, ⟨_, _, _, rfl, rfl, rfl, Zz, ⟨_, _, _, rfl, rfl, rfl, Zz, rfl⟩⟩⟩ rfl) rfl ?_; refine zc (c_buildSlice (f := dCho) (za := (0, 0, 0)) (xs := [.tmp 1, .tmp 2]) rfl rfl wBet5_isl25 wBet5_siz78 wBet5_zer78 rfl rfl ⟨(_, _, _), _, rfl, Zz, rfl, rfl, ⟨(_, _, _), _, rfl, Zz, rfl, rfl, rfl⟩⟩) rfl (zm2 rfl rfl rfl (snil (f_ret ?_)))
  refine ends_ret (res_eq (res1 rfl (res_tmp rfl (Sees.of rfl))) ?_)
  rfl

theorem two_spec  :
    Spec Go.Proofs.Try.prog 20 [] (dia [(2, 0, 1)] 2) := by
  refine spec_of' Go.Proofs.Try.func20 rfl Go.Proofs.Try.ntmps20 rfl ?_
  refine f_seq (f_region ?_); refine scons (r_alloc (ob := 10000) rfl wBet5_zer29 rfl rfl rfl rfl rfl rfl) (snil (f_seq (f_region ?_))); refine zq (p_build rfl wBet5_plc80 wBet5_zer80 (by decide) wBet5_zch80 ⟨_, _, _, rfl, rfl, rfl, Zz, ⟨_, _, _, rfl, rfl, rfl, Zz, ⟨_, _, _, rfl, rfl, rfl, Zz, rfl⟩⟩⟩ rfl) rfl ?_; refine zc (c_buildSlice (f := dCho) (za := (0, 0, 0)) (xs := [.tmp 1]) rfl rfl wBet5_isl27 wBet5_siz80 wBet5_zer80 rfl rfl ⟨(_, _, _), _, rfl, Zz, rfl, rfl, rfl⟩) rfl ?_; refine zq (p_build rfl wBet5_plc29 wBet5_zer29 (by decide) wBet5_zch29 ⟨_, _, _, rfl, rfl, rfl, Zz, ⟨_, _, _, rfl, rfl, rfl, Zz, rfl⟩⟩ rfl) rfl ?_; refine scons (r_storeS rfl wBet5_siz29 rfl rfl rfl Zz rfl Zz rfl rfl rfl rfl) (snil (f_ret ?_))
  refine ends_ret (res_eq (res1 rfl (res_cell (by rfl) rfl rfl wBet5_agg29 wBet5_siz29 rfl rfl)) ?_)
  rfl

theorem betweenSure_spec  :
    Spec Go.Proofs.Try.prog 9 [] (D.bool true) := by
  refine spec_of' Go.Proofs.Try.func9 rfl Go.Proofs.Try.ntmps9 rfl ?_
  refine f_seq (f_region (zm2 rfl rfl rfl (snil (f_seq (f_region ?_))))); refine zc (c_call rfl wBet5_isf16 rfl (first_spec)) rfl ?_; refine zc (c_call rfl wBet5_isf17 rfl (second_spec)) rfl ?_; refine zc (c_call rfl wBet5_isf18 rfl (proof_spec)) rfl ?_; refine zc (c_call rfl wBet5_isf6 ⟨_, _, rfl, Zz, rfl, ⟨_, _, rfl, Zz, rfl, ⟨_, _, rfl, Zz, rfl, rfl⟩⟩⟩ (Take_spec 2 Sp.exA 2 Sp.exB Sp.exL)) rfl (zm1 rfl rfl rfl ?_); refine zq (p_extract rfl Zz rfl) rfl ?_; refine zq (p_extract rfl Zz rfl) rfl ?_; refine scons (r_alloc (ob := 10001) rfl wBet5_zer29 rfl rfl rfl rfl rfl rfl) ?_; refine scons (r_alloc (ob := 10002) rfl wBet5_zer31 rfl rfl rfl rfl rfl rfl) ?_; refine scons (r_storeS rfl wBet5_siz29 rfl rfl rfl Zz rfl Zz rfl rfl rfl rfl) ?_; refine scons (r_storeS rfl wBet5_siz31 rfl rfl rfl Zz rfl Zz rfl rfl rfl rfl) (snil (f_seq (f_region ?_))); refine zc (c_call rfl wBet5_isf16 rfl (first_spec)) rfl ?_; refine zc (c_call rfl wBet5_isf17 rfl (second_spec)) rfl ?_; refine zc (c_call rfl wBet5_isf18 rfl (proof_spec)) rfl ?_; refine zc (c_call rfl wBet5_isf7 ⟨_, _, rfl, Zz, rfl, ⟨_, _, rfl, Zz, rfl, ⟨_, _, rfl, Zz, rfl, rfl⟩⟩⟩ (Even_spec 2 Sp.exA 2 Sp.exB Sp.exL)) rfl (zm1 rfl rfl rfl ?_); refine zq (p_extract rfl Zz rfl) rfl ?_; refine zq (p_extract rfl Zz rfl) rfl ?_; refine scons (r_alloc (ob := 10003) rfl wBet5_zer29 rfl rfl rfl rfl rfl rfl) ?_; refine scons (r_alloc (ob := 10004) rfl wBet5_zer31 rfl rfl rfl rfl rfl rfl) ?_; refine scons (r_storeS rfl wBet5_siz29 rfl rfl rfl Zz rfl Zz rfl rfl rfl rfl) ?_; refine scons (r_storeS rfl wBet5_siz31 rfl rfl rfl Zz rfl Zz rfl rfl rfl rfl) (snil (f_seq ?_)); refine f_draw wBet5_mix (by kernel_rfl) ?_; refine yq (p_fieldRef rfl wBet5_fld31_0 wBet5_siz3 rfl Zz rfl) rfl ?_; refine yq (p_loadB (y := .val _) rfl wBet5_agg3 Zz rfl rfl rfl rfl) rfl ?_; refine yq (p_eql rfl Zz Zz) rfl (zd1 rfl rfl rfl ?_); refine dcons (CStep.guard rfl rfl rfl (fun hg0 => PStep.c (p_fieldRef rfl wBet5_fld31_0 wBet5_siz3 rfl Zz rfl)) rfl rfl rfl rfl rfl) ?_; refine dcons (CStep.guard rfl rfl rfl (fun hg0 => PStep.c (p_loadB (y := .val _) rfl wBet5_agg3 (Sees.gv' rfl hg0) rfl rfl rfl rfl)) rfl rfl rfl rfl rfl) ?_; refine dcons (CStep.guard rfl rfl rfl (fun hg0 => PStep.c (p_eql rfl (Sees.gv' rfl hg0) Zz)) rfl rfl rfl rfl rfl) ?_; refine yq (p_and rfl Zz (fun h => Sees.gv' rfl (beq_of_eq h)) Zz) rfl (zd1 rfl rfl rfl ?_); refine dcons (CStep.guard rfl rfl rfl (fun hg0 => PStep.c (p_loadBS rfl wBet5_agg29 wBet5_siz29 Zz rfl rfl rfl)) rfl rfl rfl rfl rfl) ?_; refine dcons (CStep.guard rfl rfl rfl (fun hg0 => c_call rfl wBet5_isf20 rfl (two_spec)) rfl rfl rfl rfl rfl) ?_; refine dcons (CStep.guard rfl rfl rfl (fun hg0 => c_call rfl wBet5_isf19 ⟨_, _, rfl, (Sees.gv' rfl hg0), rfl, ⟨_, _, rfl, (Sees.gv' rfl hg0), rfl, rfl⟩⟩ (DiaSame_spec _ _ _ _)) rfl rfl rfl rfl rfl) ?_; refine yq (p_and rfl Zz (fun h => Sees.gv' rfl (beq_of_eq h)) Zz) rfl (zd1 rfl rfl rfl ?_); refine dcons (CStep.guard rfl rfl rfl (fun hg0 => PStep.c (p_loadBS rfl wBet5_agg29 wBet5_siz29 Zz rfl rfl rfl)) rfl rfl rfl rfl rfl) ?_; refine dcons (CStep.guard rfl rfl rfl (fun hg0 => c_call rfl wBet5_isf20 rfl (two_spec)) rfl rfl rfl rfl rfl) ?_; refine dcons (CStep.guard rfl rfl rfl (fun hg0 => c_call rfl wBet5_isf19 ⟨_, _, rfl, (Sees.gv' rfl hg0), rfl, ⟨_, _, rfl, (Sees.gv' rfl hg0), rfl, rfl⟩⟩ (DiaSame_spec _ _ _ _)) rfl rfl rfl rfl rfl) ?_; refine yq (p_and rfl Zz (fun h => Sees.gv' rfl (beq_of_eq h)) Zz) rfl (zd2 rfl rfl rfl ?_); refine dnil (by kernel_rfl) (f_ret ?_)
  refine ends_ret (res_eq (res1 rfl (res_tmp rfl (Sees.of rfl))) ?_)
  rw [Sp.ex_tak, Sp.ex_tak]
  rfl

theorem wide_spec (n : Int) (a : List (List Int)) (m : Int) (b : List (List Int)) :
    Spec Go.Proofs.Try.prog 4 [.val (cnf n a), .val (cnf m b)] (D.bool (decide (8 < n) || decide (8 < m) || decide ((40 : Int) < a.length) || decide ((40 : Int) < b.length))) := by
  refine spec_of' Go.Proofs.Try.func4 rfl Go.Proofs.Try.ntmps4 rfl ?_
  refine f_seq (f_region ?_); refine scons (r_box (ob := 10002) rfl Zz rfl rfl rfl rfl rfl rfl) ?_; refine scons (r_box (ob := 10003) rfl Zz rfl rfl rfl rfl rfl rfl) (zm2 rfl rfl rfl (snil (f_seq (f_region ?_)))); refine zq (p_fieldRef rfl wBet5_fld24_0 wBet5_siz3 rfl Zz rfl) rfl ?_; refine zq (p_loadB (y := .val _) rfl wBet5_agg3 Zz rfl rfl rfl rfl) rfl ?_; refine zq (p_gtr rfl Zz Zz) rfl (zm1 rfl rfl rfl ?_); refine scons (CStep.guard rfl rfl rfl (fun hg0 => PStep.c (p_fieldRef rfl wBet5_fld24_0 wBet5_siz3 rfl Zz rfl)) rfl rfl rfl rfl rfl) ?_; refine scons (CStep.guard rfl rfl rfl (fun hg0 => PStep.c (p_loadB (y := .val _) rfl wBet5_agg3 (Sees.gv' rfl hg0) rfl rfl rfl rfl)) rfl rfl rfl rfl rfl) ?_; refine scons (CStep.guard rfl rfl rfl (fun hg0 => PStep.c (p_gtr rfl (Sees.gv' rfl hg0) Zz)) rfl rfl rfl rfl rfl) ?_; refine zq (p_or rfl Zz Zz (fun h => Sees.gv' rfl (beq_of_eq h))) rfl (zm1 rfl rfl rfl ?_); refine scons (CStep.guard rfl rfl rfl (fun hg0 => PStep.c (p_fieldRef rfl wBet5_fld24_1 wBet5_siz22 rfl Zz rfl)) rfl rfl rfl rfl rfl) ?_; refine scons (CStep.guard rfl rfl rfl (fun hg0 => PStep.c (p_loadB (y := .val _) rfl wBet5_agg22 (Sees.gv' rfl hg0) rfl rfl rfl rfl)) rfl rfl rfl rfl rfl) ?_; refine scons (CStep.guard rfl rfl rfl (fun hg0 => PStep.c (p_len rfl wBet5_isl22 (Sees.gv' rfl hg0))) rfl rfl rfl rfl rfl) ?_; refine scons (CStep.guard rfl rfl rfl (fun hg0 => PStep.c (p_gtr rfl (Sees.gv' rfl hg0) Zz)) rfl rfl rfl rfl rfl) ?_; refine zq (p_or rfl Zz Zz (fun h => Sees.gv' rfl (beq_of_eq h))) rfl (zm1 rfl rfl rfl ?_); refine scons (CStep.guard rfl rfl rfl (fun hg0 => PStep.c (p_fieldRef rfl wBet5_fld24_1 wBet5_siz22 rfl Zz rfl)) rfl rfl rfl rfl rfl) ?_; refine scons (CStep.guard rfl rfl rfl (fun hg0 => PStep.c (p_loadB (y := .val _) rfl wBet5_agg22 (Sees.gv' rfl hg0) rfl rfl rfl rfl)) rfl rfl rfl rfl rfl) ?_; refine scons (CStep.guard rfl rfl rfl (fun hg0 => PStep.c (p_len rfl wBet5_isl22 (Sees.gv' rfl hg0))) rfl rfl rfl rfl rfl) ?_; refine scons (CStep.guard rfl rfl rfl (fun hg0 => PStep.c (p_gtr rfl (Sees.gv' rfl hg0) Zz)) rfl rfl rfl rfl rfl) ?_; refine zq (p_or rfl Zz Zz (fun h => Sees.gv' rfl (beq_of_eq h))) rfl (zm2 rfl rfl rfl (snil (f_ret ?_)))
  refine ends_ret (res_eq (res1 rfl (res_tmp rfl (Sees.of rfl))) ?_)
  rfl

end Go.Um
