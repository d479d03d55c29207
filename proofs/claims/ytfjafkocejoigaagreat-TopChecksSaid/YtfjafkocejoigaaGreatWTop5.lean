/- Walks of Go functions of this seat, each by its contract. No condition beyond what each theorem says. -/
import Derived.Test.YtfjafkocejoigaaGreatWTop1
import Derived.Test.YtfjafkocejoigaaGreatWChk
import Derived.Test.YtfjafkocejoigaaGreatTr2
import Derived.Test.YtfjafkocejoigaaGreatJd
import Derived.Test.YtfjafkocejoigaaGreatWk
import Derived.Test.YtfjafkocejoigaaGreatFld
import Derived.Test.YtfjafkocejoigaaGreatProg
import Derived.KernelRfl
import Derived.Test.YtfjafkocejoigaaGreatQ
set_option maxRecDepth 4000
namespace Go.Um
open Go Go.RowKit

theorem wTop5_agg22 : IsAgg Go.Proofs.Tryz.prog 22 false := by unfold IsAgg; kernel_rfl
theorem wTop5_agg23 : IsAgg Go.Proofs.Tryz.prog 23 false := by unfold IsAgg; kernel_rfl
theorem wTop5_agg29 : IsAgg Go.Proofs.Tryz.prog 29 true := by unfold IsAgg; kernel_rfl
theorem wTop5_agg3 : IsAgg Go.Proofs.Tryz.prog 3 false := by unfold IsAgg; kernel_rfl
theorem wTop5_agg33 : IsAgg Go.Proofs.Tryz.prog 33 false := by unfold IsAgg; kernel_rfl
theorem wTop5_agg48 : IsAgg Go.Proofs.Tryz.prog 48 false := by unfold IsAgg; kernel_rfl
theorem wTop5_agg52 : IsAgg Go.Proofs.Tryz.prog 52 true := by unfold IsAgg; kernel_rfl
theorem wTop5_agg58 : IsAgg Go.Proofs.Tryz.prog 58 false := by unfold IsAgg; kernel_rfl
theorem wTop5_agg59 : IsAgg Go.Proofs.Tryz.prog 59 false := by unfold IsAgg; kernel_rfl
theorem wTop5_agg61 : IsAgg Go.Proofs.Tryz.prog 61 true := by unfold IsAgg; kernel_rfl
theorem wTop5_byt52 : Bytes Go.Proofs.Tryz.prog 52 64 := by unfold Bytes; kernel_rfl
theorem wTop5_fld120_0 : IsField Go.Proofs.Tryz.prog 120 0 0 61 := by unfold IsField; kernel_rfl
theorem wTop5_fld25_0 : IsField Go.Proofs.Tryz.prog 25 0 0 3 := by unfold IsField; kernel_rfl
theorem wTop5_fld25_1 : IsField Go.Proofs.Tryz.prog 25 1 1 23 := by unfold IsField; kernel_rfl
theorem wTop5_fld50_0 : IsField Go.Proofs.Tryz.prog 50 0 0 22 := by unfold IsField; kernel_rfl
theorem wTop5_fld50_1 : IsField Go.Proofs.Tryz.prog 50 1 1 3 := by unfold IsField; kernel_rfl
theorem wTop5_fld50_2 : IsField Go.Proofs.Tryz.prog 50 2 2 3 := by unfold IsField; kernel_rfl
theorem wTop5_fld52_0 : IsField Go.Proofs.Tryz.prog 52 0 0 3 := by unfold IsField; kernel_rfl
theorem wTop5_fld52_1 : IsField Go.Proofs.Tryz.prog 52 1 1 3 := by unfold IsField; kernel_rfl
theorem wTop5_fld52_2 : IsField Go.Proofs.Tryz.prog 52 2 2 3 := by unfold IsField; kernel_rfl
theorem wTop5_fld52_3 : IsField Go.Proofs.Tryz.prog 52 3 3 50 := by unfold IsField; kernel_rfl
theorem wTop5_fld54_0 : IsField Go.Proofs.Tryz.prog 54 0 0 3 := by unfold IsField; kernel_rfl
theorem wTop5_fld54_1 : IsField Go.Proofs.Tryz.prog 54 1 1 22 := by unfold IsField; kernel_rfl
theorem wTop5_fld54_2 : IsField Go.Proofs.Tryz.prog 54 2 2 48 := by unfold IsField; kernel_rfl
theorem wTop5_fld54_3 : IsField Go.Proofs.Tryz.prog 54 3 3 52 := by unfold IsField; kernel_rfl
theorem wTop5_fld61_0 : IsField Go.Proofs.Tryz.prog 61 0 0 58 := by unfold IsField; kernel_rfl
theorem wTop5_fld61_1 : IsField Go.Proofs.Tryz.prog 61 1 1 33 := by unfold IsField; kernel_rfl
theorem wTop5_fld61_2 : IsField Go.Proofs.Tryz.prog 61 2 2 59 := by unfold IsField; kernel_rfl
theorem wTop5_fld61_3 : IsField Go.Proofs.Tryz.prog 61 3 3 23 := by unfold IsField; kernel_rfl
theorem wTop5_isf130 : IsFn Go.Proofs.Tryz.prog 130 := by unfold IsFn; kernel_rfl
theorem wTop5_isf67 : IsFn Go.Proofs.Tryz.prog 67 := by unfold IsFn; kernel_rfl
theorem wTop5_isf89 : IsFn Go.Proofs.Tryz.prog 89 := by unfold IsFn; kernel_rfl
theorem wTop5_isf94 : IsFn Go.Proofs.Tryz.prog 94 := by unfold IsFn; kernel_rfl
theorem wTop5_isl22 : IsSlice Go.Proofs.Tryz.prog 22 3 := by unfold IsSlice; kernel_rfl
theorem wTop5_isl33 : IsSlice Go.Proofs.Tryz.prog 33 4 := by unfold IsSlice; kernel_rfl
theorem wTop5_isl48 : IsSlice Go.Proofs.Tryz.prog 48 195 := by unfold IsSlice; kernel_rfl
theorem wTop5_isl58 : IsSlice Go.Proofs.Tryz.prog 58 186 := by unfold IsSlice; kernel_rfl
theorem wTop5_isl59 : IsSlice Go.Proofs.Tryz.prog 59 52 := by unfold IsSlice; kernel_rfl
theorem wTop5_mix : (Go.Proofs.Tryz.prog).follows .mixedOrders = true := by kernel_rfl
theorem wTop5_plc25 : Places Go.Proofs.Tryz.prog 25 [(0, 1), (1, 1)] := by unfold Places; kernel_rfl
theorem wTop5_plc52 : Places Go.Proofs.Tryz.prog 52 [(0, 1), (1, 1), (2, 1), (3, 3)] := by unfold Places; kernel_rfl
theorem wTop5_plc61 : Places Go.Proofs.Tryz.prog 61 [(0, 1), (1, 1), (2, 1), (3, 1)] := by unfold Places; kernel_rfl
theorem wTop5_siz22 : Size Go.Proofs.Tryz.prog 22 1 := by unfold Size; kernel_rfl
theorem wTop5_siz23 : Size Go.Proofs.Tryz.prog 23 1 := by unfold Size; kernel_rfl
theorem wTop5_siz29 : Size Go.Proofs.Tryz.prog 29 2 := by unfold Size; kernel_rfl
theorem wTop5_siz3 : Size Go.Proofs.Tryz.prog 3 1 := by unfold Size; kernel_rfl
theorem wTop5_siz33 : Size Go.Proofs.Tryz.prog 33 1 := by unfold Size; kernel_rfl
theorem wTop5_siz48 : Size Go.Proofs.Tryz.prog 48 1 := by unfold Size; kernel_rfl
theorem wTop5_siz50 : Size Go.Proofs.Tryz.prog 50 3 := by unfold Size; kernel_rfl
theorem wTop5_siz52 : Size Go.Proofs.Tryz.prog 52 6 := by unfold Size; kernel_rfl
theorem wTop5_siz58 : Size Go.Proofs.Tryz.prog 58 1 := by unfold Size; kernel_rfl
theorem wTop5_siz59 : Size Go.Proofs.Tryz.prog 59 1 := by unfold Size; kernel_rfl
theorem wTop5_siz61 : Size Go.Proofs.Tryz.prog 61 4 := by unfold Size; kernel_rfl
def wTop5_z25 : D := .cons (.int .i64 0) (.cons (intss []) (.nil))
theorem wTop5_zch25 : ∀ (ok : Nat → Prop) (w : World), R Go.Proofs.Tryz.prog wTop5_z25 ok w (Value.cells (.agg #[(.int .i64 0), (.slice none 0 0)])).toList := fun _ _ => z_int (z_list (z_nil))
def wTop5_z29 : D := .cons (.int .i64 0) (.cons (.int .i64 0) (.nil))
def wTop5_z52 : D := .cons (.int .i64 0) (.cons (.int .i64 0) (.cons (.int .i64 0) (.cons (ints []) (.cons (.int .i64 0) (.cons (.int .i64 0) (.nil))))))
theorem wTop5_zch52 : ∀ (ok : Nat → Prop) (w : World), R Go.Proofs.Tryz.prog wTop5_z52 ok w (Value.cells (.agg #[(.int .i64 0), (.int .i64 0), (.int .i64 0), (.slice none 0 0), (.int .i64 0), (.int .i64 0)])).toList := fun _ _ => z_int (z_int (z_int (z_list (z_int (z_int (z_nil))))))
theorem wTop5_zer25 : Zero Go.Proofs.Tryz.prog 25 (.agg #[(.int .i64 0), (.slice none 0 0)]) := by unfold Zero; kernel_rfl
theorem wTop5_zer29 : Zero Go.Proofs.Tryz.prog 29 (.agg #[(.int .i64 0), (.int .i64 0)]) := by unfold Zero; kernel_rfl
theorem wTop5_zer52 : Zero Go.Proofs.Tryz.prog 52 (.agg #[(.int .i64 0), (.int .i64 0), (.int .i64 0), (.slice none 0 0), (.int .i64 0), (.int .i64 0)]) := by unfold Zero; kernel_rfl
theorem wTop5_zer61 : Zero Go.Proofs.Tryz.prog 61 (.agg #[(.slice none 0 0), (.slice none 0 0), (.slice none 0 0), (.slice none 0 0)]) := by unfold Zero; kernel_rfl

theorem free_spec (n : Nat) (ls : List (List Int)) (hn : n ≤ 1000) :
    Spec Go.Proofs.Tryz.prog 19 [.val (cnf n ls)] (frm (List.replicate n (1 : Int)) ls) := by
  refine spec_of' Go.Proofs.Tryz.func19 rfl Go.Proofs.Tryz.ntmps19 rfl ?_
  refine f_seq (f_region ?_); refine scons (r_box (ob := 10001) rfl Zz rfl rfl rfl rfl rfl rfl) ?_; refine scons (r_alloc (ob := 10002) rfl wTop5_zer61 rfl rfl rfl rfl rfl rfl) (snil (f_seq (f_region ?_))); refine zq (p_fieldRef rfl wTop5_fld25_1 wTop5_siz23 rfl Zz rfl) rfl ?_; refine zq (p_loadB (y := .val _) rfl wTop5_agg23 Zz rfl rfl rfl rfl) rfl ?_; refine zq (p_buildV rfl wTop5_plc61 wTop5_zer61 rfl rfl ⟨_, _, _, _, _, rfl, rfl, rfl, Zz, (oneAt_val rfl), ⟨rfl, rfl⟩⟩ rfl) rfl ?_; refine scons (r_alloc (ob := 10003) rfl wTop5_zer61 rfl rfl rfl rfl rfl rfl) ?_; refine scons (r_storeV rfl wTop5_siz61 rfl rfl rfl Zz rfl Zz rfl rfl rfl rfl) (snil ?_)
  refine f_le (le_seesB (ob := 10003) (off := 0) (.val (trms [])) rfl rfl rfl (Sees.emp rfl _ _ _)) ?_ (by simp)
  refine f_le (le_seesB (ob := 10003) (off := 1) (.val (bools [])) rfl rfl rfl (Sees.emp rfl _ _ _)) ?_ (by simp)
  refine f_seq (f_seq (f_region (zm2 rfl rfl rfl (snil (f_block ?_)))))
  refine f_loop (α := Nat × Nat) (fun (i, u) => i ≤ n) (fun (i, u) => [(4, iv i), (1, .ref 10001 0 0), (10001, .box 0 (.ccons (iv n) (.ccons (.val (intss ls)) .cnil))), (3, .ref 10003 0 0), (10003, .box 0 (.ccons (.val (trms [])) (.ccons (.val (bools [])) (.ccons (.row 30000 u) (.ccons (.val (intss ls)) .cnil))))), (30000, .arr u 52 6 64 dAtm 0 (List.replicate i 1)), (2, .ref 10002 0 0), (10002, .box 0 (.ccons (.emp) (.ccons (.emp) (.ccons (.emp) (.ccons (.emp) .cnil)))))]) (fun (i, u) => n - i) (0, 0) ?_ ?_ ?_
  · exact Nat.zero_le _
  · exact Le.trans (GLe.le (g_adoptB (ob := 10003) (off := 2) (o1 := 30000) 52 6 64 dAtm 0 rfl rfl rfl rfl rfl rfl rfl)) (le_ofL ⟨rfl, rfl, rfl, rfl, rfl, rfl, rfl, rfl, trivial⟩ rfl)
  · rintro ⟨i, u⟩ hi
    have hi : i ≤ n := hi
    refine f_seq (f_seq (f_region (zm1 rfl rfl rfl ?_))); refine zq (p_fieldRef rfl wTop5_fld25_0 wTop5_siz3 rfl Zz rfl) rfl ?_; refine zq (p_loadB (y := .val _) rfl wTop5_agg3 Zz rfl rfl rfl rfl) rfl ?_; refine zq (p_lss rfl Zz Zz) rfl (snil (f_cond rfl ?_ ?_))
    · intro hc1; (try simp only [bs] at hc1); refine f_skip (f_seq (f_block (f_region ?_))); refine zq (p_fieldRef rfl wTop5_fld61_2 wTop5_siz59 rfl Zz rfl) rfl ?_; refine zq (p_loadB (y := .row _ _) rfl wTop5_agg59 Zz rfl rfl rfl rfl) rfl ?_; refine zq (p_build rfl wTop5_plc52 wTop5_zer52 (by decide) wTop5_zch52 ⟨_, _, _, rfl, rfl, rfl, Zz, rfl⟩ rfl) rfl ?_; refine zc (c_buildSlice (f := dAtm) (za := 0) (xs := [.tmp 16]) rfl rfl wTop5_isl59 wTop5_siz52 wTop5_zer52 rfl rfl ⟨_, _, rfl, Zz, rfl, rfl, rfl⟩) rfl ?_; refine scons (r_appendR (ob := 30000) rfl wTop5_isl59 wTop5_siz52 wTop5_byt52 wTop5_zer52 rfl rfl Zz rfl Zz (by simp only [List.length_replicate, List.length_cons, List.length_nil]; omega) (by simp only [List.length_replicate, List.length_cons, List.length_nil]; omega) rfl rfl rfl rfl rfl) ?_; refine zq (p_fieldRef rfl wTop5_fld61_2 wTop5_siz59 rfl Zz rfl) rfl ?_; refine scons (r_storeR rfl wTop5_siz59 rfl rfl rfl Zz rfl rfl Zz rfl) (snil (f_nil ?_)); show AWs _ _ _ _ _; refine f_region (zm1 rfl rfl rfl ?_); refine zq (p_add rfl Zz Zz (by omega)) rfl (zm2 rfl rfl rfl (snil ?_))
      refine f_back ⟨(i + 1, u + 1), ?_, ?_, le_ofL ⟨rfl, rfl, rfl, rfl, rfl, (by rw [List.replicate_succ']; rfl), rfl, rfl, trivial⟩ rfl⟩
      · show i + 1 ≤ n
        omega
      · show n - (i + 1) < n - i
        omega
    · intro hc1; (try simp only [bs] at hc1); refine f_exit ?_; show AWs _ _ _ _ _; refine f_seq ?_
      refine f_le (GLe.le (g_freezeB (ob := 10003) (off := 2) (o1 := 30000) rfl rfl rfl rfl rfl rfl rfl)) ?_ (by simp)
      refine f_region ?_; refine zq (p_loadBS rfl wTop5_agg61 wTop5_siz61 Zz rfl rfl rfl) rfl ?_; refine scons (r_storeS rfl wTop5_siz61 rfl rfl rfl Zz rfl Zz rfl rfl rfl rfl) (snil (f_ret ?_))
      refine ends_ret (res_eq (res1 rfl (res_cell (by rfl) rfl rfl wTop5_agg61 wTop5_siz61 rfl rfl)) ?_)
      obtain rfl : i = n := by omega
      rfl

theorem zero_spec  :
    Spec Go.Proofs.Tryz.prog 130 [.val (dAtm 0)] (D.bool true) := by
  refine spec_of' Go.Proofs.Tryz.func130 rfl Go.Proofs.Tryz.ntmps130 rfl ?_
  refine f_seq (f_region ?_); refine scons (r_box (ob := 10001) rfl Zz rfl rfl rfl rfl rfl rfl) (zm2 rfl rfl rfl (snil (f_seq (f_region ?_)))); refine zq (p_fieldRef rfl wTop5_fld52_0 wTop5_siz3 rfl Zz rfl) rfl ?_; refine zq (p_loadB (y := .val _) rfl wTop5_agg3 Zz rfl rfl rfl rfl) rfl ?_; refine zq (p_eql rfl Zz Zz) rfl (zm1 rfl rfl rfl ?_); refine scons (CStep.guard rfl rfl rfl (fun hg0 => PStep.c (p_fieldRef rfl wTop5_fld52_1 wTop5_siz3 rfl Zz rfl)) rfl rfl rfl rfl rfl) ?_; refine scons (CStep.guard rfl rfl rfl (fun hg0 => PStep.c (p_loadB (y := .val _) rfl wTop5_agg3 (Sees.gv' rfl hg0) rfl rfl rfl rfl)) rfl rfl rfl rfl rfl) ?_; refine scons (CStep.guard rfl rfl rfl (fun hg0 => PStep.c (p_eql rfl (Sees.gv' rfl hg0) Zz)) rfl rfl rfl rfl rfl) ?_; refine zq (p_and rfl Zz (fun h => Sees.gv' rfl (beq_of_eq h)) Zz) rfl (zm1 rfl rfl rfl ?_); refine scons (CStep.guard rfl rfl rfl (fun hg0 => PStep.c (p_fieldRef rfl wTop5_fld52_2 wTop5_siz3 rfl Zz rfl)) rfl rfl rfl rfl rfl) ?_; refine scons (CStep.guard rfl rfl rfl (fun hg0 => PStep.c (p_loadB (y := .val _) rfl wTop5_agg3 (Sees.gv' rfl hg0) rfl rfl rfl rfl)) rfl rfl rfl rfl rfl) ?_; refine scons (CStep.guard rfl rfl rfl (fun hg0 => PStep.c (p_eql rfl (Sees.gv' rfl hg0) Zz)) rfl rfl rfl rfl rfl) ?_; refine zq (p_and rfl Zz (fun h => Sees.gv' rfl (beq_of_eq h)) Zz) rfl (zm1 rfl rfl rfl ?_); refine scons (CStep.guard rfl rfl rfl (fun hg0 => PStep.c (p_fieldRef rfl wTop5_fld52_3 wTop5_siz50 rfl Zz rfl)) rfl rfl rfl rfl rfl) ?_; refine scons (CStep.guard rfl rfl rfl (fun hg0 => PStep.c (p_fieldRefO rfl wTop5_fld50_0 wTop5_siz22 rfl (Sees.gv' rfl hg0) rfl)) rfl rfl rfl rfl rfl) ?_; refine scons (CStep.guard rfl rfl rfl (fun hg0 => PStep.c (p_loadB (y := .val _) rfl wTop5_agg22 (Sees.gv' rfl hg0) rfl rfl rfl rfl)) rfl rfl rfl rfl rfl) ?_; refine scons (CStep.guard rfl rfl rfl (fun hg0 => PStep.c (p_len rfl wTop5_isl22 (Sees.gv' rfl hg0))) rfl rfl rfl rfl rfl) ?_; refine scons (CStep.guard rfl rfl rfl (fun hg0 => PStep.c (p_eql rfl (Sees.gv' rfl hg0) Zz)) rfl rfl rfl rfl rfl) ?_; refine zq (p_and rfl Zz (fun h => Sees.gv' rfl (beq_of_eq h)) Zz) rfl (zm1 rfl rfl rfl ?_); refine scons (CStep.guard rfl rfl rfl (fun hg0 => PStep.c (p_fieldRef rfl wTop5_fld52_3 wTop5_siz50 rfl Zz rfl)) rfl rfl rfl rfl rfl) ?_; refine scons (CStep.guard rfl rfl rfl (fun hg0 => PStep.c (p_fieldRefO rfl wTop5_fld50_1 wTop5_siz3 rfl (Sees.gv' rfl hg0) rfl)) rfl rfl rfl rfl rfl) ?_; refine scons (CStep.guard rfl rfl rfl (fun hg0 => PStep.c (p_loadB (y := .val _) rfl wTop5_agg3 (Sees.gv' rfl hg0) rfl rfl rfl rfl)) rfl rfl rfl rfl rfl) ?_; refine scons (CStep.guard rfl rfl rfl (fun hg0 => PStep.c (p_eql rfl (Sees.gv' rfl hg0) Zz)) rfl rfl rfl rfl rfl) ?_; refine zq (p_and rfl Zz (fun h => Sees.gv' rfl (beq_of_eq h)) Zz) rfl (zm1 rfl rfl rfl ?_); refine scons (CStep.guard rfl rfl rfl (fun hg0 => PStep.c (p_fieldRef rfl wTop5_fld52_3 wTop5_siz50 rfl Zz rfl)) rfl rfl rfl rfl rfl) ?_; refine scons (CStep.guard rfl rfl rfl (fun hg0 => PStep.c (p_fieldRefO rfl wTop5_fld50_2 wTop5_siz3 rfl (Sees.gv' rfl hg0) rfl)) rfl rfl rfl rfl rfl) ?_; refine scons (CStep.guard rfl rfl rfl (fun hg0 => PStep.c (p_loadB (y := .val _) rfl wTop5_agg3 (Sees.gv' rfl hg0) rfl rfl rfl rfl)) rfl rfl rfl rfl rfl) ?_; refine scons (CStep.guard rfl rfl rfl (fun hg0 => PStep.c (p_eql rfl (Sees.gv' rfl hg0) Zz)) rfl rfl rfl rfl rfl) ?_; refine zq (p_and rfl Zz (fun h => Sees.gv' rfl (beq_of_eq h)) Zz) rfl (zm2 rfl rfl rfl (snil (f_ret ?_)))
  refine ends_ret (res_eq (res1 rfl (res_tmp rfl (Sees.of rfl))) ?_)
  rfl

theorem CheckAtom_spec (A : List Int) (ls : List (List Int)) :
    Spec Go.Proofs.Tryz.prog 94 [.val (frm A ls), .val (dAtm 1)] (di 0) := by
  refine spec_of' Go.Proofs.Tryz.func94 rfl Go.Proofs.Tryz.ntmps94 rfl ?_
  refine f_seq (f_region ?_); refine scons (r_box (ob := 10002) rfl Zz rfl rfl rfl rfl rfl rfl) ?_; refine scons (r_box (ob := 10003) rfl Zz rfl rfl rfl rfl rfl rfl) (zm2 rfl rfl rfl (snil (f_seq (f_region ?_)))); refine zq (p_fieldRef rfl wTop5_fld52_3 wTop5_siz50 rfl Zz rfl) rfl ?_; refine zq (p_fieldRefO rfl wTop5_fld50_0 wTop5_siz22 rfl Zz rfl) rfl ?_; refine zq (p_loadB (y := .val _) rfl wTop5_agg22 Zz rfl rfl rfl rfl) rfl ?_; refine zq (p_len rfl wTop5_isl22 Zz) rfl ?_; refine zq (p_eql rfl Zz Zz) rfl (zm1 rfl rfl rfl ?_); refine scons (CStep.guard rfl rfl rfl (fun hg0 => PStep.c (p_fieldRef rfl wTop5_fld52_3 wTop5_siz50 rfl Zz rfl)) rfl rfl rfl rfl rfl) ?_; refine scons (CStep.guard rfl rfl rfl (fun hg0 => PStep.c (p_fieldRefO rfl wTop5_fld50_1 wTop5_siz3 rfl (Sees.gv' rfl hg0) rfl)) rfl rfl rfl rfl rfl) ?_; refine scons (CStep.guard rfl rfl rfl (fun hg0 => PStep.c (p_loadB (y := .val _) rfl wTop5_agg3 (Sees.gv' rfl hg0) rfl rfl rfl rfl)) rfl rfl rfl rfl rfl) ?_; refine scons (CStep.guard rfl rfl rfl (fun hg0 => PStep.c (p_eql rfl (Sees.gv' rfl hg0) Zz)) rfl rfl rfl rfl rfl) ?_; refine zq (p_and rfl Zz (fun h => Sees.gv' rfl (beq_of_eq h)) Zz) rfl (zm1 rfl rfl rfl ?_); refine scons (CStep.guard rfl rfl rfl (fun hg0 => PStep.c (p_fieldRef rfl wTop5_fld52_3 wTop5_siz50 rfl Zz rfl)) rfl rfl rfl rfl rfl) ?_; refine scons (CStep.guard rfl rfl rfl (fun hg0 => PStep.c (p_fieldRefO rfl wTop5_fld50_2 wTop5_siz3 rfl (Sees.gv' rfl hg0) rfl)) rfl rfl rfl rfl rfl) ?_; refine scons (CStep.guard rfl rfl rfl (fun hg0 => PStep.c (p_loadB (y := .val _) rfl wTop5_agg3 (Sees.gv' rfl hg0) rfl rfl rfl rfl)) rfl rfl rfl rfl rfl) ?_; refine scons (CStep.guard rfl rfl rfl (fun hg0 => PStep.c (p_eql rfl (Sees.gv' rfl hg0) Zz)) rfl rfl rfl rfl rfl) ?_; refine zq (p_and rfl Zz (fun h => Sees.gv' rfl (beq_of_eq h)) Zz) rfl (zm2 rfl rfl rfl (snil (f_seq (f_block (f_seq (f_region ?_)))))); refine zq (p_fieldRef rfl wTop5_fld52_0 wTop5_siz3 rfl Zz rfl) rfl ?_; refine zq (p_loadB (y := .val _) rfl wTop5_agg3 Zz rfl rfl rfl rfl) rfl ?_; refine zq (p_lss rfl Zz Zz) rfl (zm1 rfl rfl rfl ?_); refine scons (CStep.guard rfl rfl rfl (fun hg0 => PStep.c (p_fieldRef rfl wTop5_fld52_0 wTop5_siz3 rfl Zz rfl)) rfl rfl rfl rfl rfl) ?_; refine scons (CStep.guard rfl rfl rfl (fun hg0 => PStep.c (p_loadB (y := .val _) rfl wTop5_agg3 (Sees.gv' rfl hg0) rfl rfl rfl rfl)) rfl rfl rfl rfl rfl) ?_; refine scons (CStep.guard rfl rfl rfl (fun hg0 => PStep.c (p_gtr rfl (Sees.gv' rfl hg0) Zz)) rfl rfl rfl rfl rfl) ?_; refine zq (p_or rfl Zz Zz (fun h => Sees.gv' rfl (beq_of_eq h))) rfl (zm2 rfl rfl rfl (snil (f_cond rfl ?_ ?_)))
  · intro hc1; (try simp only [bs] at hc1)
    exact absurd hc1 (by decide)
  · intro hc1; (try simp only [bs] at hc1); refine f_seq (f_region ?_); refine zq (p_fieldRef rfl wTop5_fld52_1 wTop5_siz3 rfl Zz rfl) rfl ?_; refine zq (p_loadB (y := .val _) rfl wTop5_agg3 Zz rfl rfl rfl rfl) rfl ?_; refine zq (p_neq rfl Zz Zz) rfl (zm1 rfl rfl rfl ?_); refine scons (CStep.guard rfl rfl rfl (fun hg0 => PStep.c (p_fieldRef rfl wTop5_fld52_2 wTop5_siz3 rfl Zz rfl)) rfl rfl rfl rfl rfl) ?_; refine scons (CStep.guard rfl rfl rfl (fun hg0 => PStep.c (p_loadB (y := .val _) rfl wTop5_agg3 (Sees.gv' rfl hg0) rfl rfl rfl rfl)) rfl rfl rfl rfl rfl) ?_; refine scons (CStep.guard rfl rfl rfl (fun hg0 => PStep.c (p_neq rfl (Sees.gv' rfl hg0) Zz)) rfl rfl rfl rfl rfl) ?_; refine zq (p_or rfl Zz Zz (fun h => Sees.gv' rfl (beq_of_eq h))) rfl (zm1 rfl rfl rfl ?_); refine scons (CStep.guard rfl rfl rfl (fun hg0 => PStep.c (p_fieldRef rfl wTop5_fld52_0 wTop5_siz3 rfl Zz rfl)) rfl rfl rfl rfl rfl) ?_; refine scons (CStep.guard rfl rfl rfl (fun hg0 => PStep.c (p_loadB (y := .val _) rfl wTop5_agg3 (Sees.gv' rfl hg0) rfl rfl rfl rfl)) rfl rfl rfl rfl rfl) ?_; refine scons (CStep.guard rfl rfl rfl (fun hg0 => PStep.c (p_neq rfl (Sees.gv' rfl hg0) Zz)) rfl rfl rfl rfl rfl) ?_; refine zq (p_and rfl Zz (fun h => Sees.gv' rfl (beq_of_eq h)) Zz) rfl (zm1 rfl rfl rfl ?_); refine scons (CStep.guard rfl rfl rfl (fun hg0 => PStep.c (p_move (y := .val _) rfl Zz rfl)) rfl rfl rfl rfl rfl) ?_; refine scons (CStep.guard rfl rfl rfl (fun hg0 => PStep.c (p_not rfl (Sees.gv' rfl hg0))) rfl rfl rfl rfl rfl) ?_; refine scons (CStep.guard rfl rfl rfl (fun hg0 => PStep.c (p_move (y := .val _) rfl (Sees.gv' rfl hg0) rfl)) rfl rfl rfl rfl rfl) ?_; refine scons (CStep.guard2 rfl rfl rfl (fun hg1 hg0 => PStep.c (p_fieldRef rfl wTop5_fld52_0 wTop5_siz3 rfl Zz rfl)) rfl rfl rfl rfl rfl) ?_; refine scons (CStep.guard2 rfl rfl rfl (fun hg1 hg0 => PStep.c (p_loadB (y := .val _) rfl wTop5_agg3 (Sees.gv' rfl (and_true_of hg1 hg0)) rfl rfl rfl rfl)) rfl rfl rfl rfl rfl) ?_; refine scons (CStep.guard2 rfl rfl rfl (fun hg1 hg0 => PStep.c (p_neq rfl (Sees.gv' rfl (and_true_of hg1 hg0)) Zz)) rfl rfl rfl rfl rfl) ?_; refine scons (CStep.guard rfl rfl rfl (fun hg0 => PStep.c (p_and rfl (Sees.gv' rfl hg0) (fun h => Sees.gv' rfl (and_true_of hg0 (beq_of_eq h))) Zz)) rfl rfl rfl rfl rfl) ?_; refine zq (p_or rfl Zz Zz (fun h => Sees.gv' rfl (beq_of_eq h))) rfl (zm2 rfl rfl rfl (snil (f_cond rfl ?_ ?_)))
    · intro hc2; (try simp only [bs] at hc2)
      exact absurd hc2 (by decide)
    · intro hc2; (try simp only [bs] at hc2); refine f_seq (f_region ?_); refine zq (p_fieldRef rfl wTop5_fld52_0 wTop5_siz3 rfl Zz rfl) rfl ?_; refine zq (p_loadB (y := .val _) rfl wTop5_agg3 Zz rfl rfl rfl rfl) rfl ?_; refine zq (p_eql rfl Zz Zz) rfl (zm1 rfl rfl rfl ?_); refine scons (CStep.guard rfl rfl rfl (fun hg0 => PStep.c (p_fieldRef rfl wTop5_fld52_1 wTop5_siz3 rfl Zz rfl)) rfl rfl rfl rfl rfl) ?_; refine scons (CStep.guard rfl rfl rfl (fun hg0 => PStep.c (p_loadB (y := .val _) rfl wTop5_agg3 (Sees.gv' rfl hg0) rfl rfl rfl rfl)) rfl rfl rfl rfl rfl) ?_; refine scons (CStep.guard rfl rfl rfl (fun hg0 => PStep.c (p_lss rfl (Sees.gv' rfl hg0) Zz)) rfl rfl rfl rfl rfl) ?_; refine scons (CStep.guard rfl rfl rfl (fun hg0 => PStep.c (p_move (y := .val _) rfl (Sees.gv' rfl hg0) rfl)) rfl rfl rfl rfl rfl) ?_; refine scons (CStep.guard2 rfl rfl rfl (fun hg1 hg0 => PStep.c (p_fieldRef rfl wTop5_fld52_1 wTop5_siz3 rfl Zz rfl)) rfl rfl rfl rfl rfl) ?_; refine scons (CStep.guard2 rfl rfl rfl (fun hg1 hg0 => PStep.c (p_loadB (y := .val _) rfl wTop5_agg3 (Sees.gv' rfl (and_true_of hg1 hg0)) rfl rfl rfl rfl)) rfl rfl rfl rfl rfl) ?_; refine scons (CStep.guard2 rfl rfl rfl (fun hg1 hg0 => PStep.c (p_fieldRef rfl wTop5_fld52_2 wTop5_siz3 rfl Zz rfl)) rfl rfl rfl rfl rfl) ?_; refine scons (CStep.guard2 rfl rfl rfl (fun hg1 hg0 => PStep.c (p_loadB (y := .val _) rfl wTop5_agg3 (Sees.gv' rfl (and_true_of hg1 hg0)) rfl rfl rfl rfl)) rfl rfl rfl rfl rfl) ?_; refine scons (CStep.guard2 rfl rfl rfl (fun hg1 hg0 => PStep.c (p_geq rfl (Sees.gv' rfl (and_true_of hg1 hg0)) (Sees.gv' rfl (and_true_of hg1 hg0)))) rfl rfl rfl rfl rfl) ?_; refine scons (CStep.guard rfl rfl rfl (fun hg0 => PStep.c (p_or rfl (Sees.gv' rfl hg0) Zz (fun h => Sees.gv' rfl (and_true_of hg0 (beq_of_eq h))))) rfl rfl rfl rfl rfl) ?_; refine scons (CStep.guard rfl rfl rfl (fun hg0 => PStep.c (p_move (y := .val _) rfl (Sees.gv' rfl hg0) rfl)) rfl rfl rfl rfl rfl) ?_; refine scons (CStep.guard2 rfl rfl rfl (fun hg1 hg0 => PStep.c (p_fieldRef rfl wTop5_fld52_2 wTop5_siz3 rfl Zz rfl)) rfl rfl rfl rfl rfl) ?_; refine scons (CStep.guard2 rfl rfl rfl (fun hg1 hg0 => PStep.c (p_loadB (y := .val _) rfl wTop5_agg3 (Sees.gv' rfl (and_true_of hg1 hg0)) rfl rfl rfl rfl)) rfl rfl rfl rfl rfl) ?_; refine scons (CStep.guard2 rfl rfl rfl (fun hg1 hg0 => PStep.c (p_fieldRef rfl wTop5_fld61_0 wTop5_siz58 rfl Zz rfl)) rfl rfl rfl rfl rfl) ?_; refine scons (CStep.guard2 rfl rfl rfl (fun hg1 hg0 => PStep.c (p_loadB (y := .val _) rfl wTop5_agg58 (Sees.gv' rfl (and_true_of hg1 hg0)) rfl rfl rfl rfl)) rfl rfl rfl rfl rfl) ?_; refine scons (CStep.guard2 rfl rfl rfl (fun hg1 hg0 => PStep.c (p_len rfl wTop5_isl58 (Sees.gv' rfl (and_true_of hg1 hg0)))) rfl rfl rfl rfl rfl) ?_; refine scons (CStep.guard2 rfl rfl rfl (fun hg1 hg0 => PStep.c (p_geq rfl (Sees.gv' rfl (and_true_of hg1 hg0)) (Sees.gv' rfl (and_true_of hg1 hg0)))) rfl rfl rfl rfl rfl) ?_; refine scons (CStep.guard rfl rfl rfl (fun hg0 => PStep.c (p_or rfl (Sees.gv' rfl hg0) Zz (fun h => Sees.gv' rfl (and_true_of hg0 (beq_of_eq h))))) rfl rfl rfl rfl rfl) ?_; refine zq (p_and rfl Zz (fun h => Sees.gv' rfl (beq_of_eq h)) Zz) rfl (zm2 rfl rfl rfl (snil (f_cond rfl ?_ ?_)))
      · intro hc3; (try simp only [bs] at hc3)
        exact absurd hc3 (by decide)
      · intro hc3; (try simp only [bs] at hc3); refine f_seq (f_region ?_); refine zq (p_fieldRef rfl wTop5_fld52_0 wTop5_siz3 rfl Zz rfl) rfl ?_; refine zq (p_loadB (y := .val _) rfl wTop5_agg3 Zz rfl rfl rfl rfl) rfl ?_; refine zq (p_eql rfl Zz Zz) rfl (zm2 rfl rfl rfl (snil (f_cond rfl ?_ ?_)))
        · intro hc4; (try simp only [bs] at hc4)
          exact absurd hc4 (by decide)
        · intro hc4; (try simp only [bs] at hc4); refine f_skip (f_nil ?_); show AWs _ _ _ _ _; refine f_seq (f_region (zm2 rfl rfl rfl (snil (f_ret ?_))))
          refine ends_ret (res_eq (res1 rfl (res_tmp rfl (Sees.of rfl))) ?_)
          rfl

theorem formCheck_spec (n : Nat) (ls : List (List Int)) (hn : n ≤ 120) :
    Spec Go.Proofs.Tryz.prog 58 [.val (frm (List.replicate n (1 : Int)) ls)] (fault (Sp.check n ls).1 (Sp.check n ls).2) := by
  refine spec_of' Go.Proofs.Tryz.func58 rfl Go.Proofs.Tryz.ntmps58 rfl ?_
  refine f_seq ?_
  have hrl : (List.replicate n (1 : Int)).length = n := List.length_replicate
  refine f_region ?_; refine scons (r_box (ob := 10001) rfl Zz rfl rfl rfl rfl rfl rfl) ?_; refine scons (r_alloc (ob := 10002) rfl wTop5_zer29 rfl rfl rfl rfl rfl rfl) (snil (f_seq (f_seq (f_region ?_)))); refine zq (p_fieldRef rfl wTop5_fld61_0 wTop5_siz58 rfl Zz rfl) rfl ?_; refine zq (p_loadB (y := .val _) rfl wTop5_agg58 Zz rfl rfl rfl rfl) rfl ?_; refine zq (p_len rfl wTop5_isl58 Zz) rfl ?_; refine zq (p_gtr rfl Zz Zz) rfl (snil (f_cond rfl ?_ ?_))
  · intro hc1; (try simp only [bs] at hc1)
    exact absurd hc1 (by decide)
  · intro hc1; (try simp only [bs] at hc1); refine f_skip (f_seq (f_seq (f_region ?_))); refine zq (p_fieldRef rfl wTop5_fld61_0 wTop5_siz58 rfl Zz rfl) rfl ?_; refine zq (p_loadB (y := .val _) rfl wTop5_agg58 Zz rfl rfl rfl rfl) rfl ?_; refine zq (p_len rfl wTop5_isl58 Zz) rfl (zm1 rfl rfl rfl (snil (f_block ?_)))
    refine f_loop (α := Nat) (fun i => i ≤ 0) (fun i => [(16, iv i), (15, iv ([] : List (Int × List Int)).length), (1, .ref 10001 0 0), (2, .ref 10002 0 0), (10001, .box 0 (.ccons (.val (trms [])) (.ccons (.val (bools [])) (.ccons (.val (atms (List.replicate n (1 : Int)))) (.ccons (.val (intss ls)) .cnil))))), (10002, .box 0 (.ccons (iv 0) (.ccons (iv 0) .cnil)))]) (fun i => 0) 0 ?_ ?_ ?_
    · exact Nat.le_refl _
    · exact le_ofL ⟨rfl, rfl, rfl, rfl, rfl, rfl, trivial⟩ rfl
    · rintro i hi
      refine f_seq (f_region ?_); refine zq (p_lss rfl Zz Zz) rfl (snil (f_seq (f_cond rfl ?_ ?_)))
      · intro hc2; (try simp only [bs] at hc2)
        exact absurd hc2 (by show ¬ (i : Int) < (0 : Nat); omega)
      · intro hc2; (try simp only [bs] at hc2); refine f_exit ?_; show AWs _ _ _ _ _; refine f_seq (f_seq (f_region ?_)); refine zq (p_fieldRef rfl wTop5_fld61_1 wTop5_siz33 rfl Zz rfl) rfl ?_; refine zq (p_loadB (y := .val _) rfl wTop5_agg33 Zz rfl rfl rfl rfl) rfl ?_; refine zq (p_len rfl wTop5_isl33 Zz) rfl ?_; refine zq (p_gtr rfl Zz Zz) rfl (zm1 rfl rfl rfl ?_); refine scons (CStep.guard rfl rfl rfl (fun hg0 => PStep.c (p_fieldRef rfl wTop5_fld61_2 wTop5_siz59 rfl Zz rfl)) rfl rfl rfl rfl rfl) ?_; refine scons (CStep.guard rfl rfl rfl (fun hg0 => PStep.c (p_loadB (y := .val _) rfl wTop5_agg59 (Sees.gv' rfl hg0) rfl rfl rfl rfl)) rfl rfl rfl rfl rfl) ?_; refine scons (CStep.guard rfl rfl rfl (fun hg0 => PStep.c (p_len rfl wTop5_isl59 (Sees.gv' rfl hg0))) rfl rfl rfl rfl rfl) ?_; refine scons (CStep.guard rfl rfl rfl (fun hg0 => PStep.c (p_gtr rfl (Sees.gv' rfl hg0) Zz)) rfl rfl rfl rfl rfl) ?_; refine zq (p_or rfl Zz Zz (fun h => Sees.gv' rfl (beq_of_eq h))) rfl (snil (f_cond rfl ?_ ?_))
        · intro hc3; (try simp only [bs] at hc3)
          exfalso
          simp at hc3
          omega
        · intro hc3; (try simp only [bs] at hc3); refine f_skip (f_seq (f_seq (f_region ?_))); refine zq (p_fieldRef rfl wTop5_fld61_2 wTop5_siz59 rfl Zz rfl) rfl ?_; refine zq (p_loadB (y := .val _) rfl wTop5_agg59 Zz rfl rfl rfl rfl) rfl ?_; refine zq (p_len rfl wTop5_isl59 Zz) rfl (zm1 rfl rfl rfl (snil (f_block ?_)))
          refine f_loop (α := Nat) (fun i => i ≤ n) (fun i => [(43, iv i), (1, .ref 10001 0 0), (2, .ref 10002 0 0), (41, .val (atms (List.replicate n (1 : Int)))), (42, iv (List.replicate n (1 : Int)).length), (10001, .box 0 (.ccons (.val (trms [])) (.ccons (.val (bools [])) (.ccons (.val (atms (List.replicate n (1 : Int)))) (.ccons (.val (intss ls)) .cnil))))), (10002, .box 0 (.ccons (iv 0) (.ccons (iv 0) .cnil)))]) (fun i => n - i) 0 ?_ ?_ ?_
          · exact Nat.zero_le _
          · exact le_ofL ⟨rfl, rfl, rfl, rfl, rfl, rfl, rfl, trivial⟩ rfl
          · rintro i hi
            refine f_seq (f_region ?_); refine zq (p_lss rfl Zz Zz) rfl (snil (f_seq (f_cond rfl ?_ ?_)))
            · intro hc4; (try simp only [bs] at hc4); refine f_skip (f_seq (f_block (f_seq (f_region (zm1 rfl rfl rfl ?_))))); refine zq ((by first | exact p_indexN rfl wTop5_isl59 wTop5_siz52 Zz Zz (by omega) | exact p_index rfl wTop5_isl59 wTop5_siz52 Zz Zz (by omega) (by omega))) rfl ?_; refine zq (p_loadS rfl wTop5_agg52 wTop5_siz52 Zz ⟨rfl, fun h => R_len rfl h⟩) rfl ?_; refine scons (r_alloc (ob := 10006) rfl wTop5_zer52 rfl rfl rfl rfl rfl rfl) (zm2 rfl rfl rfl ?_); refine scons (r_storeS rfl wTop5_siz52 rfl rfl rfl Zz rfl Zz rfl rfl rfl rfl) (snil (f_seq ?_))
              have hgi : (List.replicate n (1 : Int)).getD i 0 = 1 := by
                rw [List.getD_eq_getElem?_getD, List.getElem?_replicate, if_pos (by omega)]
                rfl
              refine f_region ?_; refine zq (p_loadBS rfl wTop5_agg61 wTop5_siz61 Zz rfl rfl rfl) rfl ?_; refine zq (p_loadBS rfl wTop5_agg52 wTop5_siz52 Zz rfl rfl rfl) rfl ?_
              rw [hgi]
              refine zc (c_call rfl wTop5_isf94 ⟨_, _, rfl, Zz, rfl, ⟨_, _, rfl, Zz, rfl, rfl⟩⟩ (CheckAtom_spec (List.replicate n (1 : Int)) ls)) rfl (zm2 rfl rfl rfl (snil (f_seq (f_region (zm1 rfl rfl rfl ?_))))); refine zq (p_neq rfl Zz Zz) rfl (snil (f_cond rfl ?_ ?_))
              · intro hc5; (try simp only [bs] at hc5)
                exact absurd trivial hc5
              · intro hc5; (try simp only [bs] at hc5); refine f_skip (f_nil ?_); show AWs _ _ _ _ _; refine f_region ?_; refine zq (p_add rfl Zz Zz (by omega)) rfl (zm1 rfl rfl rfl (snil ?_))
                refine f_back ⟨i + 1, ?_, ?_, le_ofL ⟨rfl, rfl, rfl, rfl, rfl, rfl, rfl, trivial⟩ rfl⟩
                · omega
                · omega
            · intro hc4; (try simp only [bs] at hc4); refine f_exit ?_; show AWs _ _ _ _ _; refine f_seq (f_region ?_); refine zq (p_fieldRef rfl wTop5_fld61_2 wTop5_siz59 rfl Zz rfl) rfl ?_; refine zq (p_loadB (y := .val _) rfl wTop5_agg59 Zz rfl rfl rfl rfl) rfl ?_; refine zq (p_len rfl wTop5_isl59 Zz) rfl ?_; refine zq (p_fieldRef rfl wTop5_fld61_3 wTop5_siz23 rfl Zz rfl) rfl ?_; refine zq (p_loadB (y := .val _) rfl wTop5_agg23 Zz rfl rfl rfl rfl) rfl ?_; refine zq (p_build rfl wTop5_plc25 wTop5_zer25 (by decide) wTop5_zch25 ⟨_, _, _, rfl, rfl, rfl, Zz, ⟨_, _, _, rfl, rfl, rfl, Zz, rfl⟩⟩ rfl) rfl ?_
              rw [List.length_replicate]
              refine zc (c_call rfl wTop5_isf67 ⟨_, _, rfl, Zz, rfl, rfl⟩ (ccheck_spec n ls)) rfl ?_; refine scons (r_storeS rfl wTop5_siz29 rfl rfl rfl Zz rfl Zz rfl rfl rfl rfl) (snil (f_ret ?_))
              refine ends_ret (res_eq (res1 rfl (res_cell (by rfl) rfl rfl wTop5_agg29 wTop5_siz29 rfl rfl)) ?_)
              rfl

theorem formed_spec (n : Nat) (ls cl : List (List Int)) (k : Int) (c : List Int) (hk : k = 1 ∨ k = 2) (hn : n ≤ 1000) :
    Spec Go.Proofs.Tryz.prog 95 [.val (.ptr (.agg (.cons (trms []) (.cons (bools []) (.cons (atms (List.replicate n (1 : Int))) (.cons (intss ls) (.cons (intss cl) .nil))))))), .val (dStp (k, c))] (D.bool (decide ((Sp.wrong n c).1 = 0))) := by
  refine spec_of' Go.Proofs.Tryz.func95 rfl Go.Proofs.Tryz.ntmps95 rfl ?_
  refine f_seq (f_region ?_); refine scons (r_box (ob := 10003) rfl Zz rfl rfl rfl rfl rfl rfl) (zm2 rfl rfl rfl (snil (f_seq (f_seq (f_region ?_))))); refine zq (p_fieldRef rfl wTop5_fld54_0 wTop5_siz3 rfl Zz rfl) rfl ?_; refine zq (p_loadB (y := .val _) rfl wTop5_agg3 Zz rfl rfl rfl rfl) rfl ?_; refine zq (p_lss rfl Zz Zz) rfl (zm1 rfl rfl rfl ?_); refine scons (CStep.guard rfl rfl rfl (fun hg0 => PStep.c (p_fieldRef rfl wTop5_fld54_0 wTop5_siz3 rfl Zz rfl)) rfl rfl rfl rfl rfl) ?_; refine scons (CStep.guard rfl rfl rfl (fun hg0 => PStep.c (p_loadB (y := .val _) rfl wTop5_agg3 (Sees.gv' rfl hg0) rfl rfl rfl rfl)) rfl rfl rfl rfl rfl) ?_; refine scons (CStep.guard rfl rfl rfl (fun hg0 => PStep.c (p_gtr rfl (Sees.gv' rfl hg0) Zz)) rfl rfl rfl rfl rfl) ?_; refine zq (p_or rfl Zz Zz (fun h => Sees.gv' rfl (beq_of_eq h))) rfl (snil (f_cond rfl ?_ ?_))
  · intro hc1; (try simp only [bs] at hc1)
    exfalso
    omega
  · intro hc1; (try simp only [bs] at hc1); refine f_skip (f_seq (f_seq (f_region ?_))); refine zq (p_fieldRef rfl wTop5_fld54_0 wTop5_siz3 rfl Zz rfl) rfl ?_; refine zq (p_loadB (y := .val _) rfl wTop5_agg3 Zz rfl rfl rfl rfl) rfl ?_; refine zq (p_neq rfl Zz Zz) rfl (zm1 rfl rfl rfl ?_); refine scons (CStep.guard rfl rfl rfl (fun hg0 => PStep.c (p_fieldRef rfl wTop5_fld54_2 wTop5_siz48 rfl Zz rfl)) rfl rfl rfl rfl rfl) ?_; refine scons (CStep.guard rfl rfl rfl (fun hg0 => PStep.c (p_loadB (y := .val _) rfl wTop5_agg48 (Sees.gv' rfl hg0) rfl rfl rfl rfl)) rfl rfl rfl rfl rfl) ?_; refine scons (CStep.guard rfl rfl rfl (fun hg0 => PStep.c (p_len rfl wTop5_isl48 (Sees.gv' rfl hg0))) rfl rfl rfl rfl rfl) ?_; refine scons (CStep.guard rfl rfl rfl (fun hg0 => PStep.c (p_gtr rfl (Sees.gv' rfl hg0) Zz)) rfl rfl rfl rfl rfl) ?_; refine zq (p_and rfl Zz (fun h => Sees.gv' rfl (beq_of_eq h)) Zz) rfl (zm1 rfl rfl rfl ?_); refine scons (CStep.guard rfl rfl rfl (fun hg0 => PStep.c (p_fieldRef rfl wTop5_fld54_0 wTop5_siz3 rfl Zz rfl)) rfl rfl rfl rfl rfl) ?_; refine scons (CStep.guard rfl rfl rfl (fun hg0 => PStep.c (p_loadB (y := .val _) rfl wTop5_agg3 (Sees.gv' rfl hg0) rfl rfl rfl rfl)) rfl rfl rfl rfl rfl) ?_; refine scons (CStep.guard rfl rfl rfl (fun hg0 => PStep.c (p_neq rfl (Sees.gv' rfl hg0) Zz)) rfl rfl rfl rfl rfl) ?_; refine scons (CStep.guard rfl rfl rfl (fun hg0 => PStep.c (p_move (y := .val _) rfl (Sees.gv' rfl hg0) rfl)) rfl rfl rfl rfl rfl) ?_; refine scons (CStep.guard2 rfl rfl rfl (fun hg1 hg0 => PStep.c (p_fieldRef rfl wTop5_fld54_3 wTop5_siz52 rfl Zz rfl)) rfl rfl rfl rfl rfl) ?_; refine scons (CStep.guard2 rfl rfl rfl (fun hg1 hg0 => PStep.c (p_loadBSO rfl wTop5_agg52 wTop5_siz52 (Sees.gv' rfl (and_true_of hg1 hg0)) rfl rfl rfl rfl)) rfl rfl rfl rfl rfl) ?_; refine scons (CStep.guard2 rfl rfl rfl (fun hg1 hg0 => c_call rfl wTop5_isf130 ⟨_, _, rfl, (Sees.gv' rfl (and_true_of hg1 hg0)), rfl, rfl⟩ (zero_spec)) rfl rfl rfl rfl rfl) ?_; refine scons (CStep.guard2 rfl rfl rfl (fun hg1 hg0 => PStep.c (p_not rfl (Sees.gv' rfl (and_true_of hg1 hg0)))) rfl rfl rfl rfl rfl) ?_; refine scons (CStep.guard rfl rfl rfl (fun hg0 => PStep.c (p_and rfl (Sees.gv' rfl hg0) (fun h => Sees.gv' rfl (and_true_of hg0 (beq_of_eq h))) Zz)) rfl rfl rfl rfl rfl) ?_; refine zq (p_or rfl Zz Zz (fun h => Sees.gv' rfl (beq_of_eq h))) rfl (zm1 rfl rfl rfl ?_); refine scons (CStep.guard rfl rfl rfl (fun hg0 => PStep.c (p_fieldRef rfl wTop5_fld54_0 wTop5_siz3 rfl Zz rfl)) rfl rfl rfl rfl rfl) ?_; refine scons (CStep.guard rfl rfl rfl (fun hg0 => PStep.c (p_loadB (y := .val _) rfl wTop5_agg3 (Sees.gv' rfl hg0) rfl rfl rfl rfl)) rfl rfl rfl rfl rfl) ?_; refine scons (CStep.guard rfl rfl rfl (fun hg0 => PStep.c (p_eql rfl (Sees.gv' rfl hg0) Zz)) rfl rfl rfl rfl rfl) ?_; refine scons (CStep.guard rfl rfl rfl (fun hg0 => PStep.c (p_move (y := .val _) rfl (Sees.gv' rfl hg0) rfl)) rfl rfl rfl rfl rfl) ?_; refine scons (CStep.guard2 rfl rfl rfl (fun hg1 hg0 => PStep.c (p_fieldRef rfl wTop5_fld54_1 wTop5_siz22 rfl Zz rfl)) rfl rfl rfl rfl rfl) ?_; refine scons (CStep.guard2 rfl rfl rfl (fun hg1 hg0 => PStep.c (p_loadB (y := .val _) rfl wTop5_agg22 (Sees.gv' rfl (and_true_of hg1 hg0)) rfl rfl rfl rfl)) rfl rfl rfl rfl rfl) ?_; refine scons (CStep.guard2 rfl rfl rfl (fun hg1 hg0 => PStep.c (p_len rfl wTop5_isl22 (Sees.gv' rfl (and_true_of hg1 hg0)))) rfl rfl rfl rfl rfl) ?_; refine scons (CStep.guard2 rfl rfl rfl (fun hg1 hg0 => PStep.c (p_gtr rfl (Sees.gv' rfl (and_true_of hg1 hg0)) Zz)) rfl rfl rfl rfl rfl) ?_; refine scons (CStep.guard rfl rfl rfl (fun hg0 => PStep.c (p_and rfl (Sees.gv' rfl hg0) (fun h => Sees.gv' rfl (and_true_of hg0 (beq_of_eq h))) Zz)) rfl rfl rfl rfl rfl) ?_; refine zq (p_or rfl Zz Zz (fun h => Sees.gv' rfl (beq_of_eq h))) rfl (snil (f_cond rfl ?_ ?_))
    · intro hc2; (try simp only [bs] at hc2)
      exfalso
      simp at hc2
      omega
    · intro hc2; (try simp only [bs] at hc2); refine f_skip (f_seq ?_); refine f_draw wTop5_mix (by kernel_rfl) ?_; refine yq (p_fieldRef rfl wTop5_fld54_1 wTop5_siz22 rfl Zz rfl) rfl ?_; refine yq (p_loadB (y := .val _) rfl wTop5_agg22 Zz rfl rfl rfl rfl) rfl (zd1 rfl rfl rfl ?_); refine yq (p_nilPtr rfl (Sees.dptr rfl)) rfl ?_; refine yq (p_fieldAddrA rfl wTop5_fld120_0 wTop5_siz61 rfl Zz rfl) rfl ?_; refine yq (p_fieldAddr rfl wTop5_fld61_2 wTop5_siz59 (by decide) Zz rfl rfl) rfl ?_; refine yq (p_load rfl wTop5_agg59 Zz rfl) rfl ?_; refine yq (p_len rfl wTop5_isl59 Zz) rfl ?_
      rw [List.length_replicate]
      refine yc (c_call rfl wTop5_isf89 ⟨_, _, rfl, Zz, rfl, ⟨_, _, rfl, Zz, rfl, rfl⟩⟩ (bad_spec c n (by omega))) rfl (zd1 rfl rfl rfl ?_); refine yq (p_extract rfl Zz rfl) rfl ?_; refine yq (p_extract rfl Zz rfl) rfl (zd2 rfl rfl rfl (zd2 rfl rfl rfl ?_)); refine dnil (by kernel_rfl) (f_seq (f_region (zm1 rfl rfl rfl ?_))); refine zq (p_eql rfl Zz Zz) rfl (zm2 rfl rfl rfl (snil (f_ret ?_)))
      refine ends_ret (res_eq (res1 rfl (res_tmp rfl (Sees.of rfl))) ?_)
      rfl

theorem jWhy1_spec (l : List Int) :
    Spec Go.Proofs.Tryz.prog 60 [.val (ints l)] (D.bool (decide (l = []))) := by
  refine spec_of' Go.Proofs.Tryz.func60 rfl Go.Proofs.Tryz.ntmps60 rfl ?_
  refine f_seq (f_region (zm2 rfl rfl rfl (snil (f_seq (f_region (zm1 rfl rfl rfl ?_)))))); refine zq (p_len rfl wTop5_isl22 Zz) rfl ?_; refine zq (p_eql rfl Zz Zz) rfl (zm2 rfl rfl rfl (snil (f_ret ?_)))
  refine ends_ret (res_eq (res1 rfl (res_tmp rfl (Sees.of rfl))) ?_)
  simp

end Go.Um
