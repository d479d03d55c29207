/- Walks of Go functions of this seat, each by its contract. No condition beyond what each theorem says. -/
import Derived.Test.YtfjafkocejoigaaGreatWCd2
import Derived.Test.YtfjafkocejoigaaGreatWCnf
import Derived.Test.YtfjafkocejoigaaGreatPB
import Derived.Test.YtfjafkocejoigaaGreatProg
import Derived.KernelRfl
import Derived.Test.YtfjafkocejoigaaGreatQ
set_option maxRecDepth 4000
namespace Go.Um
open Go Go.RowKit

theorem wCd3_agg22 : IsAgg Go.Proofs.Tryz.prog 22 false := by unfold IsAgg; kernel_rfl
theorem wCd3_agg23 : IsAgg Go.Proofs.Tryz.prog 23 false := by unfold IsAgg; kernel_rfl
theorem wCd3_agg25 : IsAgg Go.Proofs.Tryz.prog 25 true := by unfold IsAgg; kernel_rfl
theorem wCd3_agg29 : IsAgg Go.Proofs.Tryz.prog 29 true := by unfold IsAgg; kernel_rfl
theorem wCd3_agg3 : IsAgg Go.Proofs.Tryz.prog 3 false := by unfold IsAgg; kernel_rfl
theorem wCd3_agg36 : IsAgg Go.Proofs.Tryz.prog 36 true := by unfold IsAgg; kernel_rfl
theorem wCd3_agg40 : IsAgg Go.Proofs.Tryz.prog 40 true := by unfold IsAgg; kernel_rfl
theorem wCd3_agg91 : IsAgg Go.Proofs.Tryz.prog 91 false := by unfold IsAgg; kernel_rfl
theorem wCd3_byt4 : Bytes Go.Proofs.Tryz.prog 4 1 := by unfold Bytes; kernel_rfl
theorem wCd3_fld106_1 : IsField Go.Proofs.Tryz.prog 106 1 1 22 := by unfold IsField; kernel_rfl
theorem wCd3_fld25_0 : IsField Go.Proofs.Tryz.prog 25 0 0 3 := by unfold IsField; kernel_rfl
theorem wCd3_fld25_1 : IsField Go.Proofs.Tryz.prog 25 1 1 23 := by unfold IsField; kernel_rfl
theorem wCd3_fld29_0 : IsField Go.Proofs.Tryz.prog 29 0 0 3 := by unfold IsField; kernel_rfl
theorem wCd3_fld40_0 : IsField Go.Proofs.Tryz.prog 40 0 0 3 := by unfold IsField; kernel_rfl
theorem wCd3_fld40_1 : IsField Go.Proofs.Tryz.prog 40 1 1 3 := by unfold IsField; kernel_rfl
theorem wCd3_fld40_2 : IsField Go.Proofs.Tryz.prog 40 2 2 3 := by unfold IsField; kernel_rfl
theorem wCd3_fld40_3 : IsField Go.Proofs.Tryz.prog 40 3 3 3 := by unfold IsField; kernel_rfl
theorem wCd3_fld94_3 : IsField Go.Proofs.Tryz.prog 94 3 3 91 := by unfold IsField; kernel_rfl
theorem wCd3_fld94_5 : IsField Go.Proofs.Tryz.prog 94 5 5 3 := by unfold IsField; kernel_rfl
theorem wCd3_isf33 : IsFn Go.Proofs.Tryz.prog 33 := by unfold IsFn; kernel_rfl
theorem wCd3_isf34 : IsFn Go.Proofs.Tryz.prog 34 := by unfold IsFn; kernel_rfl
theorem wCd3_isf35 : IsFn Go.Proofs.Tryz.prog 35 := by unfold IsFn; kernel_rfl
theorem wCd3_isf36 : IsFn Go.Proofs.Tryz.prog 36 := by unfold IsFn; kernel_rfl
theorem wCd3_isf37 : IsFn Go.Proofs.Tryz.prog 37 := by unfold IsFn; kernel_rfl
theorem wCd3_isf38 : IsFn Go.Proofs.Tryz.prog 38 := by unfold IsFn; kernel_rfl
theorem wCd3_isf39 : IsFn Go.Proofs.Tryz.prog 39 := by unfold IsFn; kernel_rfl
theorem wCd3_isf40 : IsFn Go.Proofs.Tryz.prog 40 := by unfold IsFn; kernel_rfl
theorem wCd3_isf41 : IsFn Go.Proofs.Tryz.prog 41 := by unfold IsFn; kernel_rfl
theorem wCd3_isf42 : IsFn Go.Proofs.Tryz.prog 42 := by unfold IsFn; kernel_rfl
theorem wCd3_isf43 : IsFn Go.Proofs.Tryz.prog 43 := by unfold IsFn; kernel_rfl
theorem wCd3_isf67 : IsFn Go.Proofs.Tryz.prog 67 := by unfold IsFn; kernel_rfl
theorem wCd3_isf73 : IsFn Go.Proofs.Tryz.prog 73 := by unfold IsFn; kernel_rfl
theorem wCd3_isf74 : IsFn Go.Proofs.Tryz.prog 74 := by unfold IsFn; kernel_rfl
theorem wCd3_isl22 : IsSlice Go.Proofs.Tryz.prog 22 3 := by unfold IsSlice; kernel_rfl
theorem wCd3_isl33 : IsSlice Go.Proofs.Tryz.prog 33 4 := by unfold IsSlice; kernel_rfl
theorem wCd3_mix : (Go.Proofs.Tryz.prog).follows .mixedOrders = true := by kernel_rfl
theorem wCd3_plc29 : Places Go.Proofs.Tryz.prog 29 [(0, 1), (1, 1)] := by unfold Places; kernel_rfl
theorem wCd3_plc36 : Places Go.Proofs.Tryz.prog 36 [(0, 1), (1, 1), (2, 1), (3, 1), (4, 1)] := by unfold Places; kernel_rfl
theorem wCd3_plc94 : Places Go.Proofs.Tryz.prog 94 [(0, 1), (1, 1), (2, 1), (3, 1), (4, 1), (5, 1), (6, 1)] := by unfold Places; kernel_rfl
theorem wCd3_siz22 : Size Go.Proofs.Tryz.prog 22 1 := by unfold Size; kernel_rfl
theorem wCd3_siz23 : Size Go.Proofs.Tryz.prog 23 1 := by unfold Size; kernel_rfl
theorem wCd3_siz25 : Size Go.Proofs.Tryz.prog 25 2 := by unfold Size; kernel_rfl
theorem wCd3_siz29 : Size Go.Proofs.Tryz.prog 29 2 := by unfold Size; kernel_rfl
theorem wCd3_siz3 : Size Go.Proofs.Tryz.prog 3 1 := by unfold Size; kernel_rfl
theorem wCd3_siz36 : Size Go.Proofs.Tryz.prog 36 5 := by unfold Size; kernel_rfl
theorem wCd3_siz4 : Size Go.Proofs.Tryz.prog 4 1 := by unfold Size; kernel_rfl
theorem wCd3_siz40 : Size Go.Proofs.Tryz.prog 40 4 := by unfold Size; kernel_rfl
theorem wCd3_siz91 : Size Go.Proofs.Tryz.prog 91 1 := by unfold Size; kernel_rfl
def wCd3_z29 : D := .cons (.int .i64 0) (.cons (.int .i64 0) (.nil))
theorem wCd3_zch29 : ∀ (ok : Nat → Prop) (w : World), R Go.Proofs.Tryz.prog wCd3_z29 ok w (Value.cells (.agg #[(.int .i64 0), (.int .i64 0)])).toList := fun _ _ => z_int (z_int (z_nil))
def wCd3_z36 : D := .cons (.int .i64 0) (.cons (bools []) (.cons (stps []) (.cons (ints []) (.cons (.int .i64 0) (.nil)))))
theorem wCd3_zch36 : ∀ (ok : Nat → Prop) (w : World), R Go.Proofs.Tryz.prog wCd3_z36 ok w (Value.cells (.agg #[(.int .i64 0), (.slice none 0 0), (.slice none 0 0), (.slice none 0 0), (.int .i64 0)])).toList := fun _ _ => z_int (z_list (z_list (z_list (z_int (z_nil)))))
theorem wCd3_zer29 : Zero Go.Proofs.Tryz.prog 29 (.agg #[(.int .i64 0), (.int .i64 0)]) := by unfold Zero; kernel_rfl
theorem wCd3_zer36 : Zero Go.Proofs.Tryz.prog 36 (.agg #[(.int .i64 0), (.slice none 0 0), (.slice none 0 0), (.slice none 0 0), (.int .i64 0)]) := by unfold Zero; kernel_rfl
theorem wCd3_zer4 : Zero Go.Proofs.Tryz.prog 4 (.bool false) := by unfold Zero; kernel_rfl
theorem wCd3_zer94 : Zero Go.Proofs.Tryz.prog 94 (.agg #[(.int .i64 0), (.slice none 0 0), (.bool false), (.pointer none), (.slice none 0 0), (.int .i64 0), (.slice none 0 0)]) := by unfold Zero; kernel_rfl

theorem Both_spec (n : Int) (ls : List (List Int)) (l : List Int) :
    Spec Go.Proofs.Tryz.prog 33 [.val (cnf n ls), .val (ints l)] (fault (Sp.beside n ls l).1 (Sp.beside n ls l).2) := by
  refine spec_of' Go.Proofs.Tryz.func33 rfl Go.Proofs.Tryz.ntmps33 rfl ?_
  refine f_seq (f_region ?_); refine scons (r_box (ob := 10002) rfl Zz rfl rfl rfl rfl rfl rfl) ?_; refine scons (r_alloc (ob := 10004) rfl wCd3_zer29 rfl rfl rfl rfl rfl rfl) (snil (f_seq (f_seq (f_region ?_)))); refine zq (p_loadBS rfl wCd3_agg25 wCd3_siz25 Zz rfl rfl rfl) rfl ?_; refine zc (c_call rfl wCd3_isf67 ⟨_, _, rfl, Zz, rfl, rfl⟩ (ccheck_spec n ls)) rfl ?_; refine scons (r_alloc (ob := 10005) rfl wCd3_zer29 rfl rfl rfl rfl rfl rfl) ?_; refine scons (r_storeS rfl wCd3_siz29 rfl rfl rfl Zz rfl Zz rfl rfl rfl rfl) (snil (f_seq (f_region ?_))); refine zq (p_fieldRef rfl wCd3_fld29_0 wCd3_siz3 rfl Zz rfl) rfl ?_; refine zq (p_loadB (y := .val _) rfl wCd3_agg3 Zz rfl rfl rfl rfl) rfl ?_; refine zq (p_neq rfl Zz Zz) rfl (snil (f_cond rfl ?_ ?_))
  · intro hc1; (try simp only [bs] at hc1); refine f_seq (f_region ?_); refine zq (p_loadBS rfl wCd3_agg29 wCd3_siz29 Zz rfl rfl rfl) rfl ?_; refine scons (r_storeS rfl wCd3_siz29 rfl rfl rfl Zz rfl Zz rfl rfl rfl rfl) (snil (f_ret ?_))
    refine ends_ret (res_eq (res1 rfl (res_cell (by rfl) rfl rfl wCd3_agg29 wCd3_siz29 rfl rfl)) ?_)
    rw [Sp.beside, if_neg hc1]
    all_goals rfl
  · intro hc1; (try simp only [bs] at hc1); refine f_skip (f_seq (f_region (zm1 rfl rfl rfl ?_))); refine zq (p_fieldRef rfl wCd3_fld25_0 wCd3_siz3 rfl Zz rfl) rfl ?_; refine zq (p_loadB (y := .val _) rfl wCd3_agg3 Zz rfl rfl rfl rfl) rfl ?_; refine zc (c_call rfl wCd3_isf73 ⟨_, _, rfl, Zz, rfl, ⟨_, _, rfl, Zz, rfl, rfl⟩⟩ (list_spec l n (by have h := (Sp.check_ok hc1).1; omega))) rfl ?_; refine scons (r_storeS rfl wCd3_siz29 rfl rfl rfl Zz rfl Zz rfl rfl rfl rfl) (snil (f_ret ?_))
    refine ends_ret (res_eq (res1 rfl (res_cell (by rfl) rfl rfl wCd3_agg29 wCd3_siz29 rfl rfl)) ?_)
    rw [Sp.beside, if_pos hc1]
    all_goals rfl

theorem inO_spec (x m : Int) :
    Spec Go.Proofs.Tryz.prog 74 [iv x, iv m] (D.bool (Sp.inO x m)) := by
  refine spec_of' Go.Proofs.Tryz.func74 rfl Go.Proofs.Tryz.ntmps74 rfl ?_
  refine f_seq (f_region (zm2 rfl rfl rfl (snil (f_seq (f_region (zm1 rfl rfl rfl ?_)))))); refine zq (p_geq rfl Zz Zz) rfl (zm1 rfl rfl rfl ?_); refine scons (CStep.guard rfl rfl rfl (fun hg0 => PStep.c (p_move (y := .val _) rfl Zz rfl)) rfl rfl rfl rfl rfl) ?_; refine scons (CStep.guard rfl rfl rfl (fun hg0 => PStep.c (p_move (y := .val _) rfl Zz rfl)) rfl rfl rfl rfl rfl) ?_; refine scons (CStep.guard rfl rfl rfl (fun hg0 => PStep.c (p_leq rfl (Sees.gv' rfl hg0) (Sees.gv' rfl hg0))) rfl rfl rfl rfl rfl) ?_; refine zq (p_and rfl Zz (fun h => Sees.gv' rfl (beq_of_eq h)) Zz) rfl (zm2 rfl rfl rfl (snil (f_ret ?_)))
  refine ends_ret (res_eq (res1 rfl (res_tmp rfl (Sees.of rfl))) ?_)
  rfl

theorem Options_spec (a b c d fuel : Int) :
    Spec Go.Proofs.Tryz.prog 34 [.val (opts a b c d), iv fuel] (fault (Sp.optW a b c d fuel).1 (Sp.optW a b c d fuel).2) := by
  refine spec_of' Go.Proofs.Tryz.func34 rfl Go.Proofs.Tryz.ntmps34 rfl ?_
  refine f_seq (f_region ?_); refine scons (r_box (ob := 10002) rfl Zz rfl rfl rfl rfl rfl rfl) ?_; refine scons (r_alloc (ob := 10004) rfl wCd3_zer29 rfl rfl rfl rfl rfl rfl) (snil (f_seq (f_region ?_))); refine zq (p_assign (y := .clo _ _) rfl Zz rfl) rfl (snil (f_seq (f_seq (f_region ?_)))); refine zq (p_move (y := .clo _ _) rfl Zz rfl) rfl ?_; refine zq (p_fieldRef rfl wCd3_fld40_0 wCd3_siz3 rfl Zz rfl) rfl ?_; refine zq (p_loadB (y := .val _) rfl wCd3_agg3 Zz rfl rfl rfl rfl) rfl ?_; refine zc (c_callC (q := false) rfl wCd3_isf74 (inO_spec a 1000) Zz (sl_nil) (sa_cons (sh_of Zz rfl) (sa_cons (sh_of Zz rfl) (sa_nil))) rfl) rfl ?_; refine zq (p_not rfl Zz) rfl (zm1 rfl rfl rfl ?_); refine scons (CStep.guard rfl rfl rfl (fun hg0 => PStep.c (p_move (y := .clo _ _) rfl Zz rfl)) rfl rfl rfl rfl rfl) ?_; refine scons (CStep.guard rfl rfl rfl (fun hg0 => PStep.c (p_fieldRef rfl wCd3_fld40_1 wCd3_siz3 rfl Zz rfl)) rfl rfl rfl rfl rfl) ?_; refine scons (CStep.guard rfl rfl rfl (fun hg0 => PStep.c (p_loadB (y := .val _) rfl wCd3_agg3 (Sees.gv' rfl hg0) rfl rfl rfl rfl)) rfl rfl rfl rfl rfl) ?_; refine scons (CStep.guard rfl rfl rfl (fun hg0 => c_callC (q := false) rfl wCd3_isf74 (inO_spec b 1000000) (Sees.gv' rfl hg0) (sl_nil) (sa_cons (sh_of (Sees.gv' rfl hg0) rfl) (sa_cons (sh_of Zz rfl) (sa_nil))) rfl) rfl rfl rfl rfl rfl) ?_; refine scons (CStep.guard rfl rfl rfl (fun hg0 => PStep.c (p_not rfl (Sees.gv' rfl hg0))) rfl rfl rfl rfl rfl) ?_; refine zq (p_or rfl Zz Zz (fun h => Sees.gv' rfl (beq_of_eq h))) rfl (zm1 rfl rfl rfl ?_); refine scons (CStep.guard rfl rfl rfl (fun hg0 => PStep.c (p_move (y := .clo _ _) rfl Zz rfl)) rfl rfl rfl rfl rfl) ?_; refine scons (CStep.guard rfl rfl rfl (fun hg0 => PStep.c (p_fieldRef rfl wCd3_fld40_2 wCd3_siz3 rfl Zz rfl)) rfl rfl rfl rfl rfl) ?_; refine scons (CStep.guard rfl rfl rfl (fun hg0 => PStep.c (p_loadB (y := .val _) rfl wCd3_agg3 (Sees.gv' rfl hg0) rfl rfl rfl rfl)) rfl rfl rfl rfl rfl) ?_; refine scons (CStep.guard rfl rfl rfl (fun hg0 => c_callC (q := false) rfl wCd3_isf74 (inO_spec c 1000000) (Sees.gv' rfl hg0) (sl_nil) (sa_cons (sh_of (Sees.gv' rfl hg0) rfl) (sa_cons (sh_of Zz rfl) (sa_nil))) rfl) rfl rfl rfl rfl rfl) ?_; refine scons (CStep.guard rfl rfl rfl (fun hg0 => PStep.c (p_not rfl (Sees.gv' rfl hg0))) rfl rfl rfl rfl rfl) ?_; refine zq (p_or rfl Zz Zz (fun h => Sees.gv' rfl (beq_of_eq h))) rfl (zm1 rfl rfl rfl ?_); refine scons (CStep.guard rfl rfl rfl (fun hg0 => PStep.c (p_move (y := .clo _ _) rfl Zz rfl)) rfl rfl rfl rfl rfl) ?_; refine scons (CStep.guard rfl rfl rfl (fun hg0 => PStep.c (p_fieldRef rfl wCd3_fld40_3 wCd3_siz3 rfl Zz rfl)) rfl rfl rfl rfl rfl) ?_; refine scons (CStep.guard rfl rfl rfl (fun hg0 => PStep.c (p_loadB (y := .val _) rfl wCd3_agg3 (Sees.gv' rfl hg0) rfl rfl rfl rfl)) rfl rfl rfl rfl rfl) ?_; refine scons (CStep.guard rfl rfl rfl (fun hg0 => c_callC (q := false) rfl wCd3_isf74 (inO_spec d 2) (Sees.gv' rfl hg0) (sl_nil) (sa_cons (sh_of (Sees.gv' rfl hg0) rfl) (sa_cons (sh_of Zz rfl) (sa_nil))) rfl) rfl rfl rfl rfl rfl) ?_; refine scons (CStep.guard rfl rfl rfl (fun hg0 => PStep.c (p_not rfl (Sees.gv' rfl hg0))) rfl rfl rfl rfl rfl) ?_; refine zq (p_or rfl Zz Zz (fun h => Sees.gv' rfl (beq_of_eq h))) rfl (zm1 rfl rfl rfl ?_); refine scons (CStep.guard rfl rfl rfl (fun hg0 => PStep.c (p_move (y := .clo _ _) rfl Zz rfl)) rfl rfl rfl rfl rfl) ?_; refine scons (CStep.guard rfl rfl rfl (fun hg0 => PStep.c (p_move (y := .val _) rfl Zz rfl)) rfl rfl rfl rfl rfl) ?_; refine scons (CStep.guard rfl rfl rfl (fun hg0 => c_callC (q := false) rfl wCd3_isf74 (inO_spec fuel 2000) (Sees.gv' rfl hg0) (sl_nil) (sa_cons (sh_of (Sees.gv' rfl hg0) rfl) (sa_cons (sh_of Zz rfl) (sa_nil))) rfl) rfl rfl rfl rfl rfl) ?_; refine scons (CStep.guard rfl rfl rfl (fun hg0 => PStep.c (p_not rfl (Sees.gv' rfl hg0))) rfl rfl rfl rfl rfl) ?_; refine zq (p_or rfl Zz Zz (fun h => Sees.gv' rfl (beq_of_eq h))) rfl (snil (f_cond rfl ?_ ?_))
  · intro hc1; (try simp only [bs] at hc1); refine f_seq (f_region ?_); refine zq (p_build rfl wCd3_plc29 wCd3_zer29 (by decide) wCd3_zch29 ⟨_, _, _, rfl, rfl, rfl, Zz, ⟨_, _, _, rfl, rfl, rfl, Zz, rfl⟩⟩ rfl) rfl ?_; refine scons (r_storeS rfl wCd3_siz29 rfl rfl rfl Zz rfl Zz rfl rfl rfl rfl) (snil (f_ret ?_))
    refine ends_ret (res_eq (res1 rfl (res_cell (by rfl) rfl rfl wCd3_agg29 wCd3_siz29 rfl rfl)) ?_)
    rw [Sp.optW, if_neg (by simp only [Bool.and_eq_true]; intro h; obtain ⟨⟨⟨⟨h1, h2⟩, h3⟩, h4⟩, h5⟩ := h; simp [h1, h2, h3, h4, h5] at hc1)]
    all_goals rfl
  · intro hc1; (try simp only [bs] at hc1); refine f_skip (f_seq (f_region ?_)); refine zq (p_build rfl wCd3_plc29 wCd3_zer29 (by decide) wCd3_zch29 rfl rfl) rfl ?_; refine scons (r_storeS rfl wCd3_siz29 rfl rfl rfl Zz rfl Zz rfl rfl rfl rfl) (snil (f_ret ?_))
    refine ends_ret (res_eq (res1 rfl (res_cell (by rfl) rfl rfl wCd3_agg29 wCd3_siz29 rfl rfl)) ?_)
    rw [Sp.optW, if_pos (by simp only [Bool.and_eq_true]; simpa using hc1)]
    all_goals rfl

set_option maxHeartbeats 4000000 in
theorem Do_spec (n : Int) (ls : List (List Int)) (asked : List Int) (a b c d fuel : Int) :
    Spec Go.Proofs.Tryz.prog 11 [.val (cnf n ls), .val (ints asked), .val (opts a b c d), iv fuel] (two (ans (Sp.doOf n ls asked a b c d fuel).1.1 (Sp.doOf n ls asked a b c d fuel).1.2.1 (lrn (Sp.doOf n ls asked a b c d fuel).1.2.2.1) (Sp.doOf n ls asked a b c d fuel).1.2.2.2.1 (Sp.doOf n ls asked a b c d fuel).1.2.2.2.2) (fault (Sp.doOf n ls asked a b c d fuel).2.1 (Sp.doOf n ls asked a b c d fuel).2.2)) := by
  refine spec_of' Go.Proofs.Tryz.func11 rfl Go.Proofs.Tryz.ntmps11 rfl ?_
  refine f_seq (f_region ?_); refine scons (r_box (ob := 10004) rfl Zz rfl rfl rfl rfl rfl rfl) ?_; refine scons (r_box (ob := 10006) rfl Zz rfl rfl rfl rfl rfl rfl) ?_; refine scons (r_alloc (ob := 10008) rfl wCd3_zer36 rfl rfl rfl rfl rfl rfl) ?_; refine scons (r_alloc (ob := 10009) rfl wCd3_zer29 rfl rfl rfl rfl rfl rfl) (snil (f_seq (f_seq (f_region ?_)))); refine zq (p_loadBS rfl wCd3_agg25 wCd3_siz25 Zz rfl rfl rfl) rfl (zm1 rfl rfl rfl ?_); refine zc (c_call rfl wCd3_isf33 ⟨_, _, rfl, Zz, rfl, ⟨_, _, rfl, Zz, rfl, rfl⟩⟩ (Both_spec n ls asked)) rfl ?_; refine scons (r_alloc (ob := 10010) rfl wCd3_zer29 rfl rfl rfl rfl rfl rfl) ?_; refine scons (r_storeS rfl wCd3_siz29 rfl rfl rfl Zz rfl Zz rfl rfl rfl rfl) (snil (f_seq (f_region ?_))); refine zq (p_fieldRef rfl wCd3_fld29_0 wCd3_siz3 rfl Zz rfl) rfl ?_; refine zq (p_loadB (y := .val _) rfl wCd3_agg3 Zz rfl rfl rfl rfl) rfl ?_; refine zq (p_neq rfl Zz Zz) rfl (snil (f_cond rfl ?_ ?_))
  · intro hc1; (try simp only [bs] at hc1); refine f_seq ?_; refine f_draw wCd3_mix (by kernel_rfl) ?_; refine yq (p_build rfl wCd3_plc36 wCd3_zer36 (by decide) wCd3_zch36 rfl rfl) rfl ?_; refine yq (p_loadBS rfl wCd3_agg29 wCd3_siz29 Zz rfl rfl rfl) rfl ?_; refine dcons (r_storeS rfl wCd3_siz36 rfl rfl rfl Zz rfl Zz rfl rfl rfl rfl) ?_; refine dcons (r_storeS rfl wCd3_siz29 rfl rfl rfl Zz rfl Zz rfl rfl rfl rfl) ?_; refine dnil (by kernel_rfl) (f_ret ?_)
    refine ends_ret (res_eq (res2 rfl (res_cell (by rfl) rfl rfl wCd3_agg36 wCd3_siz36 rfl rfl) (res_cell (by rfl) rfl rfl wCd3_agg29 wCd3_siz29 rfl rfl)) ?_)
    rw [Sp.doOf_bad hc1]
    all_goals rfl
  · intro hc1; (try simp only [bs] at hc1)
    have hbe : (Sp.beside n ls asked).1 = 0 := hc1
    obtain ⟨m, rfl, hfit⟩ := Sp.fit_of hbe
    refine f_skip (f_seq (f_seq (f_region ?_))); refine zq (p_loadBS rfl wCd3_agg40 wCd3_siz40 Zz rfl rfl rfl) rfl (zm1 rfl rfl rfl ?_); refine zc (c_call rfl wCd3_isf34 ⟨_, _, rfl, Zz, rfl, ⟨_, _, rfl, Zz, rfl, rfl⟩⟩ (Options_spec a b c d fuel)) rfl ?_; refine scons (r_alloc (ob := 10011) rfl wCd3_zer29 rfl rfl rfl rfl rfl rfl) ?_; refine scons (r_storeS rfl wCd3_siz29 rfl rfl rfl Zz rfl Zz rfl rfl rfl rfl) (snil (f_seq (f_region ?_))); refine zq (p_fieldRef rfl wCd3_fld29_0 wCd3_siz3 rfl Zz rfl) rfl ?_; refine zq (p_loadB (y := .val _) rfl wCd3_agg3 Zz rfl rfl rfl rfl) rfl ?_; refine zq (p_neq rfl Zz Zz) rfl (snil (f_cond rfl ?_ ?_))
    · intro hc2; (try simp only [bs] at hc2); refine f_seq ?_; refine f_draw wCd3_mix (by kernel_rfl) ?_; refine yq (p_build rfl wCd3_plc36 wCd3_zer36 (by decide) wCd3_zch36 rfl rfl) rfl ?_; refine yq (p_loadBS rfl wCd3_agg29 wCd3_siz29 Zz rfl rfl rfl) rfl ?_; refine dcons (r_storeS rfl wCd3_siz36 rfl rfl rfl Zz rfl Zz rfl rfl rfl rfl) ?_; refine dcons (r_storeS rfl wCd3_siz29 rfl rfl rfl Zz rfl Zz rfl rfl rfl rfl) ?_; refine dnil (by kernel_rfl) (f_ret ?_)
      refine ends_ret (res_eq (res2 rfl (res_cell (by rfl) rfl rfl wCd3_agg36 wCd3_siz36 rfl rfl) (res_cell (by rfl) rfl rfl wCd3_agg29 wCd3_siz29 rfl rfl)) ?_)
      rw [Sp.doOf_opt hbe hc2]
      all_goals rfl
    · intro hc2; (try simp only [bs] at hc2)
      have hopt := Sp.opt_fuel hc2
      have hgo := Sp.doOf_go hbe hc2
      obtain ⟨ph, hph⟩ : ∃ ph, decide (d = 1) = ph := ⟨_, rfl⟩
      rw [hph] at hgo
      have hal : asked.length ≤ 1000000 := by have h1 := Sp.nodup_good hfit.ca.1 hfit.ga; have h2 := hfit.nn; omega
      have hza : ∀ x ∈ asked, x ≠ 0 ∧ -1000000000 ≤ x ∧ x ≤ 1000000000 := fun x hx => by have h1 := hfit.ga x hx; have h2 := hfit.nn; omega
      have hmn := hfit.nn
      have hll := hfit.ll
      have hM : (fuel.toNat + 1) * (m + 2) ≤ 2001 * 122 := Nat.mul_le_mul (by omega) (by omega)
      obtain ⟨M0, hM0⟩ : ∃ M0, (fuel.toNat + 1) * (m + 2) + 1 = M0 := ⟨_, rfl⟩
      have hM1 : M0 ≤ 300000 := by omega
      refine f_skip (f_seq ?_)
      refine f_le (le_dead (k := 30010) 0 rfl rfl rfl) ?_ (by simp)
      refine f_le (le_dead (k := 30011) 0 rfl rfl rfl) ?_ (by simp)
      refine f_le (le_dead (k := 30012) 0 rfl rfl rfl) ?_ (by simp)
      refine f_le (le_dead (k := 30013) 0 rfl rfl rfl) ?_ (by simp)
      refine f_draw wCd3_mix (by kernel_rfl) ?_; refine yq (p_fieldRef rfl wCd3_fld25_0 wCd3_siz3 rfl Zz rfl) rfl ?_; refine yq (p_loadB (y := .val _) rfl wCd3_agg3 Zz rfl rfl rfl rfl) rfl (zd1 rfl rfl rfl ?_); refine yq (p_fieldRef rfl wCd3_fld40_3 wCd3_siz3 rfl Zz rfl) rfl ?_; refine yq (p_loadB (y := .val _) rfl wCd3_agg3 Zz rfl rfl rfl rfl) rfl ?_; refine yq (p_eql rfl Zz Zz) rfl ?_; refine yq (p_fieldRef rfl wCd3_fld25_1 wCd3_siz23 rfl Zz rfl) rfl ?_; refine yq (p_loadB (y := .val _) rfl wCd3_agg23 Zz rfl rfl rfl rfl) rfl ?_; refine dcons (r_callV rfl wCd3_isf35 (New_spec 0 0 0 0 ls) ⟨_, _, rfl, Zz, rfl⟩ ⟨rfl, rfl, rfl, rfl, trivial⟩ rfl (⟨⟨_, rfl, Nat.lt_succ_self _⟩, ⟨_, rfl, Nat.lt_succ_self _⟩, ⟨_, rfl, Nat.lt_succ_self _⟩, ⟨_, rfl, Nat.lt_succ_self _⟩, trivial⟩) rfl rfl rfl rfl rfl rfl rfl) ?_; refine yq (p_buildV rfl wCd3_plc94 wCd3_zer94 rfl rfl ⟨_, _, _, _, _, rfl, rfl, rfl, Zz, (oneAt_val rfl), ⟨_, _, _, _, _, rfl, rfl, rfl, Zz, (oneAt_val rfl), ⟨_, _, _, _, _, rfl, rfl, rfl, Zz, (oneAt_val rfl), ⟨_, _, _, _, _, rfl, rfl, rfl, Zz, (oneAt_ref rfl), ⟨rfl, rfl⟩⟩⟩⟩⟩ rfl) rfl ?_; refine dcons (r_box (ob := 30000) rfl Zz rfl rfl rfl rfl rfl rfl) ?_; refine yq (p_assign (y := .ref _ _ _) rfl Zz rfl) rfl ?_; refine dnil (by kernel_rfl) ?_
      rw [hph]
      refine f_le (GLe.le (g_adoptB (ob := 30000) (off := 4) (o1 := 30001) 3 1 8 di 0 rfl rfl rfl rfl rfl rfl rfl)) ?_ (by simp)
      refine f_le (GLe.le (g_adoptB (ob := 30000) (off := 6) (o1 := 30002) 54 9 120 dStp (0, []) rfl rfl rfl rfl rfl rfl rfl)) ?_ (by simp)
      refine f_seq (f_region (zm2 rfl rfl rfl (snil (f_block ?_))))
      refine f_loop (α := Nat × Sp.Sr × Int × Nat × Nat × Nat × Nat × Nat × Nat) (fun (q, s, used, ul, us, uT, uL, uW, uM) => Sp.doF m asked ph fuel q s used = (Sp.doA m ls asked ph fuel) ∧ Sp.Inv m s ∧ (s.cl.length = ls.length + s.st.length ∧ (s.st.length : Int) ≤ used ∧ used ≤ fuel) ∧ (fuel - used) * ((m : Int) + 2) + ((m : Int) + 1 - s.L.length) < q ∧ s.k + q ≤ M0) (fun (q, s, used, ul, us, uT, uL, uW, uM) => [(12, .ref 30000 0 0), (13, iv used), (30000, .box 0 (.ccons (iv m) (.ccons (.val (ints asked)) (.ccons (bv ph) (.ccons (.ref 30010 uT 0) (.ccons (.row 30001 ul) (.ccons (iv (s.k)) (.ccons (.row 30002 us) .cnil)))))))), (30001, .arr ul 3 1 8 di 0 (s.lv)), (30002, .arr us 54 9 120 dStp (0, []) (lrn (s.st))), (30010, .box uT (.ccons (.val (intss (s.cl))) (.ccons (.row 30011 uL) (.ccons (.row 30012 uW) (.ccons (.row 30013 uM) .cnil))))), (30011, .arr uL 3 1 8 di 0 (s.L)), (30012, .arr uW 3 1 8 di 0 (s.W)), (30013, .mp uM vInt Value.bool (Sp.vmap (s.L))), (3, iv fuel), (4, .ref 10004 0 0), (8, .ref 10008 0 0), (9, .ref 10009 0 0), (10004, .box 0 (.ccons (iv (m : Int)) (.ccons (.val (intss ls)) .cnil))), (10008, .box 0 (.ccons (iv 0) (.ccons (.emp) (.ccons (.emp) (.ccons (.emp) (.ccons (iv 0) .cnil)))))), (10009, .box 0 (.ccons (iv 0) (.ccons (iv 0) .cnil)))]) (fun (q, s, used, ul, us, uT, uL, uW, uM) => q) (M0, Sp.start ls, 0, 0, 0, 1, 1, 1, 1) ?_ ?_ ?_
      · have h := Sp.do_start (ph := ph) hfit hopt.1
        rw [hM0] at h
        exact h
      · exact le_ofL ⟨rfl, rfl, rfl, rfl, rfl, rfl, rfl, rfl, rfl, rfl, rfl, rfl, rfl, rfl, rfl, rfl, trivial⟩ rfl
      · rintro ⟨q, s, used, ul, us, uT, uL, uW, uM⟩ ⟨hdo, hI, ⟨hcl, hst, huf⟩, hme, hkq⟩
        refine f_block (f_seq (f_seq ?_))
        have hmul : 0 ≤ (fuel - used) * ((m : Int) + 2) := Int.mul_nonneg (by omega) (by omega)
        have hsc : s.cl.length ≤ 2500 := by omega
        have hrm := (hI.room hmn hsc).2.1
        obtain ⟨q, rfl⟩ : ∃ q2, q = q2 + 1 := ⟨q - 1, by omega⟩
        have hrk : s.run.k = s.k := rfl
        have hrs : s.run.st.length = s.st.length := rfl
        have hrc : s.run.cl.length = s.cl.length := rfl
        have hk0 := hI.k0
        obtain ⟨k, hk⟩ : ∃ k, s.run.L.length = s.L.length + k := ⟨s.run.L.length - s.L.length, by have := (Sp.on_len s.cl s.L s.W).1; exact (Nat.add_sub_cancel' this).symm⟩
        refine f_region ?_; refine zq (p_move (y := .ref _ _ _) rfl Zz rfl) rfl ?_; refine scons (r_callB rfl wCd3_isf36 (propagate_spec m asked ph ul us uT uL uW uM s k hI hfit.nn (by omega) hk) ⟨_, _, rfl, Zz, rfl⟩ ⟨rfl, rfl, rfl, rfl, rfl, rfl, rfl, trivial⟩ rfl rfl rfl rfl rfl rfl) (zm2 rfl rfl rfl (snil (f_seq (f_region (zm1 rfl rfl rfl ?_))))); refine zq (p_geq rfl Zz Zz) rfl (snil (f_cond rfl ?_ ?_))
        · intro hc3; (try simp only [bs] at hc3)
          have hbo := Sp.bad_ok hI hc3
          refine f_seq (f_seq (f_region (zm1 rfl rfl rfl (zm1 rfl rfl rfl ?_)))); refine zq (p_eql rfl Zz Zz) rfl (snil (f_cond rfl ?_ ?_))
          · intro hc4; (try simp only [bs] at hc4); refine f_seq (f_region (zm1 rfl rfl rfl ?_)); refine zq (p_build rfl wCd3_plc36 wCd3_zer36 (by decide) wCd3_zch36 ⟨_, _, _, rfl, rfl, rfl, Zz, ⟨_, _, _, rfl, rfl, rfl, Zz, rfl⟩⟩ rfl) rfl ?_; refine zq (p_build rfl wCd3_plc29 wCd3_zer29 (by decide) wCd3_zch29 rfl rfl) rfl ?_; refine scons (r_storeS rfl wCd3_siz36 rfl rfl rfl Zz rfl Zz rfl rfl rfl rfl) ?_; refine scons (r_storeS rfl wCd3_siz29 rfl rfl rfl Zz rfl Zz rfl rfl rfl rfl) (snil (f_ret ?_))
            refine ends_ret (res_eq (res2 rfl (res_cell (by rfl) rfl rfl wCd3_agg36 wCd3_siz36 rfl rfl) (res_cell (by rfl) rfl rfl wCd3_agg29 wCd3_siz29 rfl rfl)) ?_)
            rw [hgo, ← hdo, Sp.doF_spent hc3 hc4]
            all_goals rfl
          · intro hc4; (try simp only [bs] at hc4); refine f_skip (f_seq (f_region (zm1 rfl rfl rfl ?_))); refine zq (p_add rfl Zz Zz (by omega)) rfl (zm2 rfl rfl rfl (snil (f_seq (f_seq (f_region ?_))))); refine zq (p_move (y := .ref _ _ _) rfl Zz rfl) rfl ?_; refine zq (p_nilRef rfl Zz rfl) rfl ?_; refine zq (p_fieldRef rfl wCd3_fld94_5 wCd3_siz3 rfl Zz rfl) rfl ?_; refine zq (p_loadB (y := .val _) rfl wCd3_agg3 Zz rfl rfl rfl rfl) rfl ?_; refine zq (p_eql rfl Zz Zz) rfl (snil (f_cond rfl ?_ ?_))
            · intro hc5; (try simp only [bs] at hc5); refine f_seq (f_region ?_); refine zq (p_move (y := .ref _ _ _) rfl Zz rfl) rfl (zm1 rfl rfl rfl ?_); refine scons (r_callB rfl wCd3_isf37 (no_spec m asked ph (ul + k) us uT (uL + k) (uW + k) uM s.run [] (used + 1) (fun _ h => nomatch h) (Nat.zero_le _) (by omega)) ⟨_, _, rfl, Zz, ⟨_, _, rfl, (Sees.emp rfl _ _ _), ⟨_, _, rfl, Zz, rfl⟩⟩⟩ ⟨rfl, rfl, rfl, rfl, rfl, rfl, rfl, trivial⟩ rfl rfl rfl rfl rfl rfl) ?_; refine zq (p_build rfl wCd3_plc29 wCd3_zer29 (by decide) wCd3_zch29 rfl rfl) rfl ?_; refine scons (r_storeS rfl wCd3_siz36 rfl rfl rfl Zz rfl Zz rfl rfl rfl rfl) ?_; refine scons (r_storeS rfl wCd3_siz29 rfl rfl rfl Zz rfl Zz rfl rfl rfl rfl) (snil (f_ret ?_))
              refine ends_ret (res_eq (res2 rfl (res_cell (by rfl) rfl rfl wCd3_agg36 wCd3_siz36 rfl rfl) (res_cell (by rfl) rfl rfl wCd3_agg29 wCd3_siz29 rfl rfl)) ?_)
              rw [hgo, ← hdo, Sp.doF_zero hc3 hc4 hc5]
              all_goals rfl
            · intro hc5; (try simp only [bs] at hc5)
              obtain ⟨hb1, hb2, hb3, hcl2⟩ := Sp.ana_bk hI.run hbo.1 hbo.2
              have hIl := hI.run.learn hb3
              have hcn : (s.run.learn (Sp.ana s.run s.bad).1).cl.length ≤ 2500 := by show (s.cl ++ [(Sp.ana s.run s.bad).1]).length ≤ 2500; rw [List.length_append, List.length_singleton]; omega
              refine f_skip (f_seq (f_region ?_)); refine zq (p_move (y := .ref _ _ _) rfl Zz rfl) rfl (zm1 rfl rfl rfl ?_); refine zc (c_callF (q := true) rfl wCd3_isf38 (analysed_spec m asked ph s.run s.bad hI.run (by omega) hc3 hbo.1 hbo.2) (sa_cons (sh_refD Zz rfl (shc_cons (sh_of Sees.same rfl) (shc_cons (sh_of Sees.same rfl) (shc_cons (sh_of Sees.same rfl) (shc_cons (sh_refD Sees.same rfl (shc_cons (sh_of Sees.same rfl) (shc_cons (sh_row Sees.same rfl) (shc_cons (sh_row Sees.same rfl) (shc_cons (sh_map Sees.same rfl) (shc_nil)))))) (shc_cons (sh_row Sees.same rfl) (shc_cons (sh_of Sees.same rfl) (shc_cons (sh_row Sees.same rfl) (shc_nil))))))))) (sa_cons (sh_of Zz rfl) (sa_nil)))) rfl (zm1 rfl rfl rfl ?_); refine zq (p_extract rfl Zz rfl) rfl ?_; refine zq (p_extract rfl Zz rfl) rfl (zm2 rfl rfl rfl (zm2 rfl rfl rfl (snil (f_seq (f_region ?_))))); refine zq (p_move (y := .ref _ _ _) rfl Zz rfl) rfl (zm1 rfl rfl rfl ?_); refine scons (r_callB rfl wCd3_isf39 (learn_spec m asked ph (ul + k) us uT (uL + k) (uW + k) uM s.run (Sp.ana s.run s.bad).1 (by omega) (by omega) (by omega)) ⟨_, _, rfl, Zz, ⟨_, _, rfl, Zz, rfl⟩⟩ ⟨rfl, rfl, rfl, rfl, rfl, rfl, rfl, trivial⟩ rfl rfl rfl rfl rfl rfl) (snil (f_seq (f_region ?_))); refine zq (p_move (y := .ref _ _ _) rfl Zz rfl) rfl (zm1 rfl rfl rfl ?_); refine scons (r_callB rfl wCd3_isf40 (back_spec m asked ph (ul + k) (us + 1) uT (uL + k) (uW + k) uM (s.run.learn (Sp.ana s.run s.bad).1) (Sp.ana s.run s.bad).2 (Sp.keep s.run.lv (Sp.ana s.run s.bad).2) hIl hfit.nn hcn rfl) ⟨_, _, rfl, Zz, ⟨_, _, rfl, Zz, rfl⟩⟩ ⟨rfl, rfl, rfl, rfl, rfl, rfl, rfl, trivial⟩ rfl rfl rfl rfl rfl rfl) (snil (f_exit ?_)); show AWs _ _ _ _ _
              refine f_back ⟨(q, ((s.run.learn (Sp.ana s.run s.bad).1).back (Sp.ana s.run s.bad).2), used + 1, (ul + k + 1 + (Sp.keep s.run.lv (Sp.ana s.run s.bad).2)), (us + 1), (uT + 1), (uL + k + 1 + (Sp.keep s.run.lv (Sp.ana s.run s.bad).2)), (uW + k + 1 + (Sp.keep s.run.lv (Sp.ana s.run s.bad).2)), (uM + 1)), ?_, ?_, le_ofL ⟨rfl, rfl, rfl, rfl, rfl, rfl, rfl, rfl, rfl, rfl, rfl, rfl, rfl, rfl, rfl, rfl, trivial⟩ rfl⟩
              · refine ⟨by rw [← hdo, Sp.doF_learn hc3 hc4 hc5], hI.run.taught hbo.1 hbo.2, ⟨?_, ?_, by omega⟩, ?_, ?_⟩
                · show (s.cl ++ [(Sp.ana s.run s.bad).1]).length = ls.length + (s.st ++ [(Sp.ana s.run s.bad).1]).length
                  rw [List.length_append, List.length_append, hcl, Nat.add_assoc]
                · show ((s.st ++ [(Sp.ana s.run s.bad).1]).length : Int) ≤ used + 1
                  rw [List.length_append, List.length_singleton]
                  omega
                · have e : (fuel - (used + 1)) * ((m : Int) + 2) = (fuel - used) * ((m : Int) + 2) - ((m : Int) + 2) := by
                    rw [show fuel - (used + 1) = (fuel - used) - 1 by omega, Int.sub_mul, Int.one_mul]
                  rw [e]
                  omega
                · show (Sp.ana s.run s.bad).2 + (q : Int) ≤ M0
                  omega
              · exact Nat.lt_succ_self q
        · intro hc3; (try simp only [bs] at hc3); refine f_skip (f_seq (f_region ?_)); refine zq (p_move (y := .ref _ _ _) rfl Zz rfl) rfl ?_; refine scons (r_callB rfl wCd3_isf41 (decide_spec m asked ph (ul + k) us uT (uL + k) (uW + k) uM s.run (Sp.decE m asked ph s.run) (Sp.decS m asked ph s.run) (Sp.decR m asked ph s.run) hI.run hfit.nn hza hal (by omega) (by omega) (Sp.dec_ok m asked ph s.run)) ⟨_, _, rfl, Zz, rfl⟩ ⟨rfl, rfl, rfl, rfl, rfl, rfl, rfl, trivial⟩ rfl rfl rfl rfl rfl rfl) (zm1 rfl rfl rfl ?_); refine zq (p_extract rfl Zz rfl) rfl ?_; refine zq (p_extract rfl Zz rfl) rfl (zm2 rfl rfl rfl (zm2 rfl rfl rfl (snil (f_seq (f_seq (f_region (zm1 rfl rfl rfl ?_))))))); refine zq (p_neq rfl Zz Zz) rfl (snil (f_cond rfl ?_ ?_))
          · intro hc6; (try simp only [bs] at hc6)
            obtain ⟨hd1, hd2, hd3, hd4⟩ := Sp.dec_a hc6
            have hdn : -(Sp.decR m asked ph s.run).2 ∈ s.run.L := by rw [hd4]; exact (Sp.denied_mem hd1).2
            have hco := Sp.core_good hI.run hdn
            rw [hd2, hd3]
            refine f_seq (f_region ?_); refine zq (p_move (y := .ref _ _ _) rfl Zz rfl) rfl ?_; refine zq (p_move (y := .ref _ _ _) rfl Zz rfl) rfl (zm1 rfl rfl rfl ?_); refine zc (c_callF (q := true) rfl wCd3_isf42 (core_spec m asked ph s.run (Sp.decR m asked ph s.run).2 hI.run (by omega) (by omega) hdn) (sa_cons (sh_refD Zz rfl (shc_cons (sh_of Sees.same rfl) (shc_cons (sh_of Sees.same rfl) (shc_cons (sh_of Sees.same rfl) (shc_cons (sh_refD Sees.same rfl (shc_cons (sh_of Sees.same rfl) (shc_cons (sh_row Sees.same rfl) (shc_cons (sh_row Sees.same rfl) (shc_cons (sh_map Sees.same rfl) (shc_nil)))))) (shc_cons (sh_row Sees.same rfl) (shc_cons (sh_of Sees.same rfl) (shc_cons (sh_row Sees.same rfl) (shc_nil))))))))) (sa_cons (sh_of Zz rfl) (sa_nil)))) rfl (zm1 rfl rfl rfl ?_); refine scons (r_callB rfl wCd3_isf37 (no_spec m asked ph (ul + k) us uT (uL + k) (uW + k) uM s.run (Sp.coreC s.run (Sp.decR m asked ph s.run).2) used (hco.1.fine (by omega)) (by omega) (by omega)) ⟨_, _, rfl, Zz, ⟨_, _, rfl, Zz, ⟨_, _, rfl, Zz, rfl⟩⟩⟩ ⟨rfl, rfl, rfl, rfl, rfl, rfl, rfl, trivial⟩ rfl rfl rfl rfl rfl rfl) ?_; refine zq (p_build rfl wCd3_plc29 wCd3_zer29 (by decide) wCd3_zch29 rfl rfl) rfl ?_; refine scons (r_storeS rfl wCd3_siz36 rfl rfl rfl Zz rfl Zz rfl rfl rfl rfl) ?_; refine scons (r_storeS rfl wCd3_siz29 rfl rfl rfl Zz rfl Zz rfl rfl rfl rfl) (snil (f_ret ?_))
            refine ends_ret (res_eq (res2 rfl (res_cell (by rfl) rfl rfl wCd3_agg36 wCd3_siz36 rfl rfl) (res_cell (by rfl) rfl rfl wCd3_agg29 wCd3_siz29 rfl rfl)) ?_)
            rw [hgo, ← hdo, Sp.doF_core (by omega) hd1, ← hd4]
            all_goals rfl
          · intro hc6; (try simp only [bs] at hc6); refine f_skip (f_seq (f_region (zm1 rfl rfl rfl (snil (f_cond rfl ?_ ?_)))))
            · intro hc7; (try simp only [bs] at hc7)
              obtain ⟨hd1, hd2, hd3, hd4⟩ := Sp.dec_b hc6 (by omega) hc7
              have hrm2 := (hI.run.room hmn (by omega)).2.1
              rw [hd3, hd4]
              refine f_seq (f_region ?_); refine zq (p_fieldRef rfl wCd3_fld25_0 wCd3_siz3 rfl Zz rfl) rfl ?_; refine zq (p_loadB (y := .val _) rfl wCd3_agg3 Zz rfl rfl rfl rfl) rfl ?_; refine scons (r_make (m := m) (f := D.bool) (z := false) (ob := 10099) rfl wCd3_isl33 wCd3_siz4 wCd3_byt4 wCd3_zer4 rfl rfl rfl (fun _ _ => rfl) Zz (by omega) (by omega) rfl rfl rfl rfl rfl) (zm4 rfl rfl rfl (snil (f_seq (f_seq (f_region ?_))))); refine zq (p_move (y := .ref _ _ _) rfl Zz rfl) rfl ?_; refine zq (p_nilRef rfl Zz rfl) rfl ?_; refine zq (p_fieldRef rfl wCd3_fld94_3 wCd3_siz91 rfl Zz rfl) rfl ?_; refine zq (p_loadB (y := .ref _ _ _) rfl wCd3_agg91 Zz rfl rfl rfl rfl) rfl ?_; refine zq (p_nilRef rfl Zz rfl) rfl ?_; refine zq (p_fieldRef rfl wCd3_fld106_1 wCd3_siz22 rfl Zz rfl) rfl ?_; refine zq (p_loadB (y := .row _ _) rfl wCd3_agg22 Zz rfl rfl rfl rfl) rfl ?_; refine zq (p_lenR rfl wCd3_isl22 Zz rfl) rfl (zm1 rfl rfl rfl (snil (f_block ?_)))
              refine f_loop (α := Nat) (fun i => i ≤ s.run.L.length) (fun i => [(106, .row 30011 (uL + k)), (107, iv s.run.L.length), (108, iv i), (13, iv used), (19, .row 10099 0), (10099, .arr 0 4 1 1 D.bool false (Sp.holdsT m s.run.L i)), (30000, .box 0 (.ccons (iv m) (.ccons (.val (ints asked)) (.ccons (bv ph) (.ccons (.ref 30010 uT 0) (.ccons (.row 30001 ((ul + k))) (.ccons (iv ((s.run).k)) (.ccons (.row 30002 us) .cnil)))))))), (30001, .arr ((ul + k)) 3 1 8 di 0 ((s.run).lv)), (30002, .arr us 54 9 120 dStp (0, []) (lrn ((s.run).st))), (30010, .box uT (.ccons (.val (intss ((s.run).cl))) (.ccons (.row 30011 ((uL + k))) (.ccons (.row 30012 ((uW + k))) (.ccons (.row 30013 uM) .cnil))))), (30011, .arr ((uL + k)) 3 1 8 di 0 ((s.run).L)), (30012, .arr ((uW + k)) 3 1 8 di 0 ((s.run).W)), (30013, .mp uM vInt Value.bool (Sp.vmap ((s.run).L))), (3, iv fuel), (4, .ref 10004 0 0), (8, .ref 10008 0 0), (9, .ref 10009 0 0), (12, .ref 30000 0 0), (10004, .box 0 (.ccons (iv (m : Int)) (.ccons (.val (intss ls)) .cnil))), (10008, .box 0 (.ccons (iv 0) (.ccons (.emp) (.ccons (.emp) (.ccons (.emp) (.ccons (iv 0) .cnil)))))), (10009, .box 0 (.ccons (iv 0) (.ccons (iv 0) .cnil)))]) (fun i => s.run.L.length - i) 0 ?_ ?_ ?_
              · exact Nat.zero_le _
              · exact le_ofL ⟨rfl, rfl, rfl, rfl, rfl, rfl, rfl, rfl, rfl, rfl, rfl, rfl, rfl, rfl, rfl, rfl, rfl, rfl, rfl, rfl, rfl, trivial⟩ rfl
              · rintro i hi
                refine f_seq (f_region ?_); refine zq (p_lss rfl Zz Zz) rfl (snil (f_seq (f_cond rfl ?_ ?_)))
                · intro hc8; (try simp only [bs] at hc8); refine f_skip (f_seq (f_block (f_seq (f_region ?_)))); refine zq ((by first | exact p_indexR rfl wCd3_isl22 wCd3_siz3 Zz rfl Zz (by omega) | exact p_indexRZ rfl wCd3_isl22 wCd3_siz3 Zz rfl Zz (by omega) (by omega))) rfl ?_; refine zq (p_loadE rfl wCd3_agg3 Zz rfl (by omega) (fun _ => rfl)) rfl (zm2 rfl rfl rfl (snil ?_))
                  have hgx := hI.run.gd _ (Sp.getD_mem s.run.L i 0 (by omega))
                  have hhl := Sp.holdsT_len m s.run.L i
                  refine f_region (zm3 rfl rfl rfl (zm1 rfl rfl rfl ?_)); refine zc (c_call rfl wCd3_isf43 ⟨_, _, rfl, Zz, rfl, rfl⟩ (var_spec _ (by omega))) rfl ?_; refine zq (p_sub rfl Zz Zz (by omega)) rfl (zm1 rfl rfl rfl ?_); refine zq (p_gtr rfl Zz Zz) rfl ?_; refine zq ((by first | exact p_indexR rfl wCd3_isl33 wCd3_siz4 Zz rfl Zz (by omega) | exact p_indexRZ rfl wCd3_isl33 wCd3_siz4 Zz rfl Zz (by omega) (by omega))) rfl ?_; refine scons (r_storeE rfl wCd3_siz4 rfl rfl rfl Zz rfl (by omega) Zz rfl) (snil (f_nil ?_)); show AWs _ _ _ _ _; refine f_region ?_; refine zq (p_add rfl Zz Zz (by omega)) rfl (zm1 rfl rfl rfl (snil ?_))
                  refine f_back ⟨i + 1, ?_, ?_, le_ofL ⟨rfl, rfl, rfl, rfl, rfl, (by rw [Sp.holdsT_step (by omega), Sp.putB]; rfl), rfl, rfl, rfl, rfl, rfl, rfl, rfl, rfl, rfl, rfl, rfl, rfl, rfl, rfl, rfl, trivial⟩ rfl⟩
                  · omega
                  · omega
                · intro hc8; (try simp only [bs] at hc8); refine f_exit ?_; show AWs _ _ _ _ _; refine f_seq (f_region (zm3 rfl rfl rfl (zm1 rfl rfl rfl ?_))); refine scons (LStep.pre (g_freeze (k := 120) (o1 := 10099) rfl rfl rfl rfl) (CStep.step (PStep.c (p_build rfl wCd3_plc36 wCd3_zer36 (by decide) wCd3_zch36 ⟨_, _, _, rfl, rfl, rfl, Zz, ⟨_, _, _, rfl, rfl, rfl, Zz, ⟨_, _, _, rfl, rfl, rfl, Zz, rfl⟩⟩⟩ rfl)) rfl rfl rfl rfl)) ?_; refine zq (p_build rfl wCd3_plc29 wCd3_zer29 (by decide) wCd3_zch29 rfl rfl) rfl ?_; refine scons (r_storeS rfl wCd3_siz36 rfl rfl rfl Zz rfl Zz rfl rfl rfl rfl) ?_; refine scons (r_storeS rfl wCd3_siz29 rfl rfl rfl Zz rfl Zz rfl rfl rfl rfl) (snil (f_ret ?_))
                  refine ends_ret (res_eq (res2 rfl (res_cell (by rfl) rfl rfl wCd3_agg36 wCd3_siz36 rfl rfl) (res_cell (by rfl) rfl rfl wCd3_agg29 wCd3_siz29 rfl rfl)) ?_)
                  rw [hgo, ← hdo, Sp.doF_yes (by omega) hd1 hd2, ← Sp.holdsT_all (i := i) (by omega)]
                  all_goals rfl
            · intro hc7; (try simp only [bs] at hc7)
              obtain ⟨hd1, hd2, hd3⟩ := Sp.dec_c hc6 hc7
              have hnk := Sp.next_ok hfit.ga hd1 hd2
              refine f_skip (f_nil ?_); show AWs _ _ _ _ _
              refine f_back ⟨(q, (Sp.decS m asked ph s.run), used, (ul + k + (Sp.decE m asked ph s.run)), us, uT, (uL + k + (Sp.decE m asked ph s.run)), (uW + k + (Sp.decE m asked ph s.run)), uM), ?_, ?_, le_ofL ⟨rfl, rfl, rfl, rfl, rfl, rfl, rfl, rfl, rfl, rfl, rfl, rfl, rfl, rfl, rfl, rfl, trivial⟩ rfl⟩
              · rw [hd3]
                refine ⟨by rw [← hdo, Sp.doF_next (by omega) hd1 hd2], hI.run.next hnk.1 hnk.2.1 hnk.2.2.1, ⟨hcl, hst, huf⟩, ?_, ?_⟩
                · show (fuel - used) * ((m : Int) + 2) + ((m : Int) + 1 - (s.run.L ++ [Sp.nextL ph s.run.L asked m]).length) < q
                  rw [List.length_append, List.length_singleton]
                  omega
                · show s.k + 1 + (q : Int) ≤ M0
                  omega
              · exact Nat.lt_succ_self q

end Go.Um
