/- Walks of Go functions of this seat, each by its contract. No condition beyond what each theorem says. -/
import Derived.Test.YtfjafkocejoigaaGreatWTop3
import Derived.Test.YtfjafkocejoigaaGreatWTop5
import Derived.Test.YtfjafkocejoigaaGreatWTop6
import Derived.Test.YtfjafkocejoigaaGreatTr4
import Derived.Test.YtfjafkocejoigaaGreatProg
import Derived.KernelRfl
import Derived.Test.YtfjafkocejoigaaGreatQ
set_option maxRecDepth 4000
namespace Go.Um
open Go Go.RowKit

theorem wTop7_agg22 : IsAgg Go.Proofs.Tryz.prog 22 false := by unfold IsAgg; kernel_rfl
theorem wTop7_agg23 : IsAgg Go.Proofs.Tryz.prog 23 false := by unfold IsAgg; kernel_rfl
theorem wTop7_agg25 : IsAgg Go.Proofs.Tryz.prog 25 true := by unfold IsAgg; kernel_rfl
theorem wTop7_agg29 : IsAgg Go.Proofs.Tryz.prog 29 true := by unfold IsAgg; kernel_rfl
theorem wTop7_agg3 : IsAgg Go.Proofs.Tryz.prog 3 false := by unfold IsAgg; kernel_rfl
theorem wTop7_agg33 : IsAgg Go.Proofs.Tryz.prog 33 false := by unfold IsAgg; kernel_rfl
theorem wTop7_agg34 : IsAgg Go.Proofs.Tryz.prog 34 false := by unfold IsAgg; kernel_rfl
theorem wTop7_boo4 : IsBool Go.Proofs.Tryz.prog 4 := by unfold IsBool; kernel_rfl
theorem wTop7_fld25_0 : IsField Go.Proofs.Tryz.prog 25 0 0 3 := by unfold IsField; kernel_rfl
theorem wTop7_fld25_1 : IsField Go.Proofs.Tryz.prog 25 1 1 23 := by unfold IsField; kernel_rfl
theorem wTop7_fld29_0 : IsField Go.Proofs.Tryz.prog 29 0 0 3 := by unfold IsField; kernel_rfl
theorem wTop7_fld36_0 : IsField Go.Proofs.Tryz.prog 36 0 0 3 := by unfold IsField; kernel_rfl
theorem wTop7_fld36_1 : IsField Go.Proofs.Tryz.prog 36 1 1 33 := by unfold IsField; kernel_rfl
theorem wTop7_fld36_2 : IsField Go.Proofs.Tryz.prog 36 2 2 34 := by unfold IsField; kernel_rfl
theorem wTop7_isf10 : IsFn Go.Proofs.Tryz.prog 10 := by unfold IsFn; kernel_rfl
theorem wTop7_isf11 : IsFn Go.Proofs.Tryz.prog 11 := by unfold IsFn; kernel_rfl
theorem wTop7_isf12 : IsFn Go.Proofs.Tryz.prog 12 := by unfold IsFn; kernel_rfl
theorem wTop7_isf13 : IsFn Go.Proofs.Tryz.prog 13 := by unfold IsFn; kernel_rfl
theorem wTop7_isf19 : IsFn Go.Proofs.Tryz.prog 19 := by unfold IsFn; kernel_rfl
theorem wTop7_isf20 : IsFn Go.Proofs.Tryz.prog 20 := by unfold IsFn; kernel_rfl
theorem wTop7_isf26 : IsFn Go.Proofs.Tryz.prog 26 := by unfold IsFn; kernel_rfl
theorem wTop7_isf27 : IsFn Go.Proofs.Tryz.prog 27 := by unfold IsFn; kernel_rfl
theorem wTop7_isf28 : IsFn Go.Proofs.Tryz.prog 28 := by unfold IsFn; kernel_rfl
theorem wTop7_isf29 : IsFn Go.Proofs.Tryz.prog 29 := by unfold IsFn; kernel_rfl
theorem wTop7_isf30 : IsFn Go.Proofs.Tryz.prog 30 := by unfold IsFn; kernel_rfl
theorem wTop7_isf44 : IsFn Go.Proofs.Tryz.prog 44 := by unfold IsFn; kernel_rfl
theorem wTop7_isf67 : IsFn Go.Proofs.Tryz.prog 67 := by unfold IsFn; kernel_rfl
theorem wTop7_isf7 : IsFn Go.Proofs.Tryz.prog 7 := by unfold IsFn; kernel_rfl
theorem wTop7_isl22 : IsSlice Go.Proofs.Tryz.prog 22 3 := by unfold IsSlice; kernel_rfl
theorem wTop7_isl23 : IsSlice Go.Proofs.Tryz.prog 23 22 := by unfold IsSlice; kernel_rfl
theorem wTop7_isl33 : IsSlice Go.Proofs.Tryz.prog 33 4 := by unfold IsSlice; kernel_rfl
theorem wTop7_isl34 : IsSlice Go.Proofs.Tryz.prog 34 54 := by unfold IsSlice; kernel_rfl
theorem wTop7_isl64 : IsSlice Go.Proofs.Tryz.prog 64 138 := by unfold IsSlice; kernel_rfl
theorem wTop7_mix : (Go.Proofs.Tryz.prog).follows .mixedOrders = true := by kernel_rfl
theorem wTop7_plc29 : Places Go.Proofs.Tryz.prog 29 [(0, 1), (1, 1)] := by unfold Places; kernel_rfl
theorem wTop7_siz22 : Size Go.Proofs.Tryz.prog 22 1 := by unfold Size; kernel_rfl
theorem wTop7_siz23 : Size Go.Proofs.Tryz.prog 23 1 := by unfold Size; kernel_rfl
theorem wTop7_siz25 : Size Go.Proofs.Tryz.prog 25 2 := by unfold Size; kernel_rfl
theorem wTop7_siz29 : Size Go.Proofs.Tryz.prog 29 2 := by unfold Size; kernel_rfl
theorem wTop7_siz3 : Size Go.Proofs.Tryz.prog 3 1 := by unfold Size; kernel_rfl
theorem wTop7_siz33 : Size Go.Proofs.Tryz.prog 33 1 := by unfold Size; kernel_rfl
theorem wTop7_siz34 : Size Go.Proofs.Tryz.prog 34 1 := by unfold Size; kernel_rfl
theorem wTop7_siz36 : Size Go.Proofs.Tryz.prog 36 5 := by unfold Size; kernel_rfl
def wTop7_z29 : D := .cons (.int .i64 0) (.cons (.int .i64 0) (.nil))
theorem wTop7_zch29 : ∀ (ok : Nat → Prop) (w : World), R Go.Proofs.Tryz.prog wTop7_z29 ok w (Value.cells (.agg #[(.int .i64 0), (.int .i64 0)])).toList := fun _ _ => z_int (z_int (z_nil))
theorem wTop7_zer25 : Zero Go.Proofs.Tryz.prog 25 (.agg #[(.int .i64 0), (.slice none 0 0)]) := by unfold Zero; kernel_rfl
theorem wTop7_zer29 : Zero Go.Proofs.Tryz.prog 29 (.agg #[(.int .i64 0), (.int .i64 0)]) := by unfold Zero; kernel_rfl
theorem wTop7_zer36 : Zero Go.Proofs.Tryz.prog 36 (.agg #[(.int .i64 0), (.slice none 0 0), (.slice none 0 0), (.slice none 0 0), (.int .i64 0)]) := by unfold Zero; kernel_rfl

theorem Holds_spec (n : Nat) (ls : List (List Int)) (a : List Bool) (hck : (Sp.check n ls).1 = 0) (ha : a.length = n) :
    Spec Go.Proofs.Tryz.prog 26 [.val (cnf n ls), .val (bools a)] (two (D.bool (Sp.all a ls)) (fault 0 0)) := by
  refine spec_of' Go.Proofs.Tryz.func26 rfl Go.Proofs.Tryz.ntmps26 rfl ?_
  refine f_seq (f_region ?_); refine scons (r_box (ob := 10002) rfl Zz rfl rfl rfl rfl rfl rfl) (zm2 rfl rfl rfl ?_); refine scons (r_alloc (ob := 10005) rfl wTop7_zer29 rfl rfl rfl rfl rfl rfl) (snil (f_seq (f_seq (f_region ?_)))); refine zq (p_loadBS rfl wTop7_agg25 wTop7_siz25 Zz rfl rfl rfl) rfl ?_; refine zc (c_call rfl wTop7_isf67 ⟨_, _, rfl, Zz, rfl, rfl⟩ (ccheck_spec n ls)) rfl ?_; refine scons (r_alloc (ob := 10006) rfl wTop7_zer29 rfl rfl rfl rfl rfl rfl) ?_; refine scons (r_storeS rfl wTop7_siz29 rfl rfl rfl Zz rfl Zz rfl rfl rfl rfl) (snil (f_seq (f_region ?_))); refine zq (p_fieldRef rfl wTop7_fld29_0 wTop7_siz3 rfl Zz rfl) rfl ?_; refine zq (p_loadB (y := .val _) rfl wTop7_agg3 Zz rfl rfl rfl rfl) rfl ?_; refine zq (p_neq rfl Zz Zz) rfl (snil (f_cond rfl ?_ ?_))
  · intro hc1; (try simp only [bs] at hc1)
    exact absurd hck hc1
  · intro hc1; (try simp only [bs] at hc1); refine f_skip (f_seq (f_seq (f_region (zm1 rfl rfl rfl ?_)))); refine zq (p_len rfl wTop7_isl33 Zz) rfl ?_; refine zq (p_fieldRef rfl wTop7_fld25_0 wTop7_siz3 rfl Zz rfl) rfl ?_; refine zq (p_loadB (y := .val _) rfl wTop7_agg3 Zz rfl rfl rfl rfl) rfl ?_; refine zq (p_neq rfl Zz Zz) rfl (snil (f_cond rfl ?_ ?_))
    · intro hc2; (try simp only [bs] at hc2)
      exfalso
      omega
    · intro hc2; (try simp only [bs] at hc2); refine f_skip (f_seq (f_region ?_)); refine zq (p_fieldRef rfl wTop7_fld25_1 wTop7_siz23 rfl Zz rfl) rfl ?_; refine zq (p_loadB (y := .val _) rfl wTop7_agg23 Zz rfl rfl rfl rfl) rfl (zm1 rfl rfl rfl ?_); refine zc (c_call rfl wTop7_isf44 ⟨_, _, rfl, Zz, rfl, ⟨_, _, rfl, Zz, rfl, rfl⟩⟩ (call_spec ls a (by rw [ha]; exact (Sp.check_use hck).1))) rfl ?_; refine zq (p_build rfl wTop7_plc29 wTop7_zer29 (by decide) wTop7_zch29 rfl rfl) rfl (zm2 rfl rfl rfl ?_); refine scons (r_storeS rfl wTop7_siz29 rfl rfl rfl Zz rfl Zz rfl rfl rfl rfl) (snil (f_ret ?_))
      refine ends_ret (res_eq (res2 rfl (res_tmp rfl (Sees.of rfl)) (res_cell (by rfl) rfl rfl wTop7_agg29 wTop7_siz29 rfl rfl)) ?_)
      rfl

set_option maxHeartbeats 4000000 in
theorem TopSearch_spec (raw : List Int) (o : Int) :
    Spec Go.Proofs.Tryz.prog 6 [.val (ints raw), iv o] (D.bool true) := by
  refine spec_of' Go.Proofs.Tryz.func6 rfl Go.Proofs.Tryz.ntmps6 rfl ?_
  refine f_seq ?_
  have hck := Sp.cnfOf_check (l := raw) (m := 6) (n := 30) (by decide) (by decide)
  have hok := Sp.check_okc hck
  have hl := Sp.cnfOf_len (l := raw) (m := ((6 : Nat) : Int)) (n := 30)
  obtain ⟨A, hA, hT⟩ := Sp.two_of hck (by decide) (by omega) (Sp.opts_ok o)
  refine f_region (zm2 rfl rfl rfl (snil (f_seq (f_region (zm1 rfl rfl rfl ?_))))); refine zc (c_call rfl wTop7_isf7 ⟨_, _, rfl, Zz, rfl, ⟨_, _, rfl, Zz, rfl, ⟨_, _, rfl, Zz, rfl, rfl⟩⟩⟩ (CnfOf_spec raw 6 30 (by omega) (by omega))) rfl ?_; refine scons (r_alloc (ob := 10005) rfl wTop7_zer25 rfl rfl rfl rfl rfl rfl) ?_; refine scons (r_storeS rfl wTop7_siz25 rfl rfl rfl Zz rfl Zz rfl rfl rfl rfl) (snil (f_seq ?_)); refine f_draw wTop7_mix (by kernel_rfl) ?_; refine yq (p_loadBS rfl wTop7_agg25 wTop7_siz25 Zz rfl rfl rfl) rfl (zd1 rfl rfl rfl ?_); refine yc (c_call rfl wTop7_isf12 ⟨_, _, rfl, Zz, rfl, rfl⟩ (options_spec o)) rfl ?_; refine yc (c_call rfl wTop7_isf11 ⟨_, _, rfl, Zz, rfl, ⟨_, _, rfl, (Sees.emp rfl _ _ _), rfl, ⟨_, _, rfl, Zz, rfl, ⟨_, _, rfl, Zz, rfl, rfl⟩⟩⟩⟩ (Do_spec ((6 : Nat) : Int) (Sp.cnfOf raw ((6 : Nat) : Int) 30) [] (Sp.picked o 1001) (Sp.picked (Sp.q64 o 7) 4) (Sp.picked (Sp.q64 o 28) 3 * 5) (Sp.picked (Sp.q64 o 84) 3) 2000)) rfl (zd1 rfl rfl rfl ?_); refine yq (p_extract rfl Zz rfl) rfl ?_; refine yq (p_extract rfl Zz rfl) rfl ?_; refine dcons (r_alloc (ob := 10006) rfl wTop7_zer36 rfl rfl rfl rfl rfl rfl) ?_; refine dcons (r_alloc (ob := 10007) rfl wTop7_zer29 rfl rfl rfl rfl rfl rfl) ?_; refine dcons (r_storeS rfl wTop7_siz36 rfl rfl rfl Zz rfl Zz rfl rfl rfl rfl) ?_; refine dcons (r_storeS rfl wTop7_siz29 rfl rfl rfl Zz rfl Zz rfl rfl rfl rfl) ?_; refine dnil (by kernel_rfl) (f_seq (f_seq ?_))
  rw [hA]
  refine f_draw wTop7_mix (by kernel_rfl) ?_; refine yq (p_fieldRef rfl wTop7_fld29_0 wTop7_siz3 rfl Zz rfl) rfl ?_; refine yq (p_loadB (y := .val _) rfl wTop7_agg3 Zz rfl rfl rfl rfl) rfl ?_; refine yq (p_neq rfl Zz Zz) rfl (zd1 rfl rfl rfl ?_); refine dcons (CStep.guard rfl rfl rfl (fun hg0 => c_call rfl wTop7_isf10 rfl (clausesSure_spec)) rfl rfl rfl rfl rfl) ?_; refine dcons (CStep.guard rfl rfl rfl (fun hg0 => PStep.c (p_not rfl (Sees.gv' rfl hg0))) rfl rfl rfl rfl rfl) ?_; refine yq (p_or rfl Zz Zz (fun h => Sees.gv' rfl (beq_of_eq h))) rfl (zd1 rfl rfl rfl ?_); refine dcons (CStep.guard rfl rfl rfl (fun hg0 => PStep.c (p_fieldRef rfl wTop7_fld36_0 wTop7_siz3 rfl Zz rfl)) rfl rfl rfl rfl rfl) ?_; refine dcons (CStep.guard rfl rfl rfl (fun hg0 => PStep.c (p_loadB (y := .val _) rfl wTop7_agg3 (Sees.gv' rfl hg0) rfl rfl rfl rfl)) rfl rfl rfl rfl rfl) ?_; refine dcons (CStep.guard rfl rfl rfl (fun hg0 => PStep.c (p_eql rfl (Sees.gv' rfl hg0) Zz)) rfl rfl rfl rfl rfl) ?_; refine yq (p_or rfl Zz Zz (fun h => Sees.gv' rfl (beq_of_eq h))) rfl (zd1 rfl rfl rfl ?_); refine dcons (CStep.guard rfl rfl rfl (fun hg0 => PStep.c (p_fieldRef rfl wTop7_fld36_0 wTop7_siz3 rfl Zz rfl)) rfl rfl rfl rfl rfl) ?_; refine dcons (CStep.guard rfl rfl rfl (fun hg0 => PStep.c (p_loadB (y := .val _) rfl wTop7_agg3 (Sees.gv' rfl hg0) rfl rfl rfl rfl)) rfl rfl rfl rfl rfl) ?_; refine dcons (CStep.guard rfl rfl rfl (fun hg0 => PStep.c (p_eql rfl (Sees.gv' rfl hg0) Zz)) rfl rfl rfl rfl rfl) ?_; refine dcons (CStep.guard rfl rfl rfl (fun hg0 => PStep.c (p_loadBS rfl wTop7_agg25 wTop7_siz25 Zz rfl rfl rfl)) rfl rfl rfl rfl rfl) ?_; refine dcons (CStep.guard rfl rfl rfl (fun hg0 => by have hp0 := hg0; (try simp only [bs] at hp0); exact c_call rfl wTop7_isf13 ⟨_, _, rfl, (Sees.gv' rfl hg0), rfl, rfl⟩ (models_spec 6 (Sp.cnfOf raw ((6 : Nat) : Int) 30) (by omega) hok)) rfl rfl rfl rfl rfl) ?_; refine dcons (CStep.guard rfl rfl rfl (fun hg0 => PStep.c (p_gtr rfl (Sees.gv' rfl hg0) Zz)) rfl rfl rfl rfl rfl) ?_; refine dcons (CStep.guard rfl rfl rfl (fun hg0 => PStep.c (p_neqB rfl wTop7_boo4 (Sees.gv' rfl hg0) (Sees.gv' rfl hg0))) rfl rfl rfl rfl rfl) ?_; refine yq (p_or rfl Zz Zz (fun h => Sees.gv' rfl (beq_of_eq h))) rfl ?_; refine dnil (by kernel_rfl) (f_cond rfl ?_ ?_)
  · intro hc1; (try simp only [bs] at hc1)
    exfalso
    have hq : (A.1 = 1) ↔ (0 : Int) < Sp.models 6 (Sp.cnfOf raw ((6 : Nat) : Int) 30) := hT.can.trans (Sp.models_can.symm.trans (by omega))
    rcases hc1 with ((h | h) | h) | h
    · exact h trivial
    · cases h
    · have := hT.st
      omega
    · have h9 := beq_eq_false_iff_ne.1 h
      exact h9 (decide_eq_decide.2 hq)
  · intro hc1; (try simp only [bs] at hc1); refine f_skip (f_seq (f_seq (f_region ?_))); refine zq (p_fieldRef rfl wTop7_fld36_0 wTop7_siz3 rfl Zz rfl) rfl ?_; refine zq (p_loadB (y := .val _) rfl wTop7_agg3 Zz rfl rfl rfl rfl) rfl ?_; refine zq (p_eql rfl Zz Zz) rfl (snil (f_cond rfl ?_ ?_))
    · intro hc2; (try simp only [bs] at hc2)
      have hY : Sp.OutY 6 (Sp.cnfOf raw ((6 : Nat) : Int) 30) [] A := hT.or_.resolve_right (fun h => by have := h.st; omega)
      refine f_seq (f_region ?_); refine zq (p_loadBS rfl wTop7_agg25 wTop7_siz25 Zz rfl rfl rfl) rfl ?_; refine zq (p_fieldRef rfl wTop7_fld36_1 wTop7_siz33 rfl Zz rfl) rfl ?_; refine zq (p_loadB (y := .val _) rfl wTop7_agg33 Zz rfl rfl rfl rfl) rfl ?_; refine zc (c_call rfl wTop7_isf26 ⟨_, _, rfl, Zz, rfl, ⟨_, _, rfl, Zz, rfl, rfl⟩⟩ (Holds_spec 6 (Sp.cnfOf raw ((6 : Nat) : Int) 30) A.2.1 hck hY.len)) rfl (zm1 rfl rfl rfl ?_); refine zq (p_extract rfl Zz rfl) rfl ?_; refine zq (p_extract rfl Zz rfl) rfl ?_; refine scons (r_alloc (ob := 10009) rfl wTop7_zer29 rfl rfl rfl rfl rfl rfl) (zm2 rfl rfl rfl ?_); refine scons (r_storeS rfl wTop7_siz29 rfl rfl rfl Zz rfl Zz rfl rfl rfl rfl) (snil (f_seq (f_region ?_))); refine zq (p_fieldRef rfl wTop7_fld29_0 wTop7_siz3 rfl Zz rfl) rfl ?_; refine zq (p_loadB (y := .val _) rfl wTop7_agg3 Zz rfl rfl rfl rfl) rfl ?_; refine zq (p_eql rfl Zz Zz) rfl (zm1 rfl rfl rfl ?_); refine scons (CStep.guard rfl rfl rfl (fun hg0 => PStep.c (p_move (y := .val _) rfl Zz rfl)) rfl rfl rfl rfl rfl) ?_; refine zq (p_and rfl Zz (fun h => Sees.gv' rfl (beq_of_eq h)) Zz) rfl (zm2 rfl rfl rfl (snil (f_ret ?_)))
      refine ends_ret (res_eq (res1 rfl (res_tmp rfl (Sees.of rfl))) ?_)
      rw [hY.ls]
      rfl
    · intro hc2; (try simp only [bs] at hc2)
      obtain ⟨hN, htk, h0, hX⟩ := Sp.refuted hck (by decide) hT hc2
      have htm := Sp.trim_ok htk h0
      refine f_skip (f_seq (f_region ?_)); refine zq (p_loadBS rfl wTop7_agg25 wTop7_siz25 Zz rfl rfl rfl) rfl ?_; refine zq (p_fieldRef rfl wTop7_fld36_2 wTop7_siz34 rfl Zz rfl) rfl ?_; refine zq (p_loadB (y := .val _) rfl wTop7_agg34 Zz rfl rfl rfl rfl) rfl ?_; refine zc (c_call rfl wTop7_isf27 ⟨_, _, rfl, Zz, rfl, ⟨_, _, rfl, Zz, rfl, rfl⟩⟩ (ckTake_spec ((6 : Nat) : Int) (Sp.cnfOf raw ((6 : Nat) : Int) 30) A.2.2.1 htk h0)) rfl (zm1 rfl rfl rfl ?_); refine zq (p_extract rfl Zz rfl) rfl ?_; refine zq (p_extract rfl Zz rfl) rfl ?_; refine scons (r_alloc (ob := 10011) rfl wTop7_zer29 rfl rfl rfl rfl rfl rfl) (zm2 rfl rfl rfl ?_); refine scons (r_storeS rfl wTop7_siz29 rfl rfl rfl Zz rfl Zz rfl rfl rfl rfl) (snil (f_seq ?_)); refine f_draw wTop7_mix (by kernel_rfl) ?_; refine yq (p_loadBS rfl wTop7_agg25 wTop7_siz25 Zz rfl rfl rfl) rfl ?_; refine yc (c_call rfl wTop7_isf19 ⟨_, _, rfl, Zz, rfl, rfl⟩ (free_spec 6 (Sp.cnfOf raw ((6 : Nat) : Int) 30) (by omega))) rfl ?_; refine yq (p_fieldRef rfl wTop7_fld36_2 wTop7_siz34 rfl Zz rfl) rfl ?_; refine yq (p_loadB (y := .val _) rfl wTop7_agg34 Zz rfl rfl rfl rfl) rfl ?_; refine yc (c_call rfl wTop7_isf28 ⟨_, _, rfl, Zz, rfl, ⟨_, _, rfl, Zz, rfl, rfl⟩⟩ (jTake_spec 6 (Sp.cnfOf raw ((6 : Nat) : Int) 30) A.2.2.1 htk h0)) rfl (zd1 rfl rfl rfl ?_); refine yq (p_extract rfl Zz rfl) rfl ?_; refine yq (p_extract rfl Zz rfl) rfl ?_; refine dcons (r_alloc (ob := 10013) rfl wTop7_zer29 rfl rfl rfl rfl rfl rfl) (zd2 rfl rfl rfl ?_); refine dcons (r_storeS rfl wTop7_siz29 rfl rfl rfl Zz rfl Zz rfl rfl rfl rfl) ?_; refine dnil (by kernel_rfl) (f_seq (f_region ?_)); refine zq (p_loadBS rfl wTop7_agg25 wTop7_siz25 Zz rfl rfl rfl) rfl ?_; refine zq (p_fieldRef rfl wTop7_fld36_2 wTop7_siz34 rfl Zz rfl) rfl ?_; refine zq (p_loadB (y := .val _) rfl wTop7_agg34 Zz rfl rfl rfl rfl) rfl ?_; refine zc (c_call rfl wTop7_isf29 ⟨_, _, rfl, Zz, rfl, ⟨_, _, rfl, Zz, rfl, rfl⟩⟩ (trimDo_spec 6 (Sp.cnfOf raw ((6 : Nat) : Int) 30) A.2.2.1 htk h0 (by omega))) rfl (zm1 rfl rfl rfl ?_); refine zq (p_extract rfl Zz rfl) rfl ?_; refine zq (p_extract rfl Zz rfl) rfl ?_; refine scons (r_alloc (ob := 10015) rfl wTop7_zer29 rfl rfl rfl rfl rfl rfl) (zm2 rfl rfl rfl ?_); refine scons (r_storeS rfl wTop7_siz29 rfl rfl rfl Zz rfl Zz rfl rfl rfl rfl) (snil (f_seq (f_region ?_))); refine zq (p_loadBS rfl wTop7_agg25 wTop7_siz25 Zz rfl rfl rfl) rfl ?_; refine zc (c_call rfl wTop7_isf19 ⟨_, _, rfl, Zz, rfl, rfl⟩ (free_spec 6 (Sp.cnfOf raw ((6 : Nat) : Int) 30) (by omega))) rfl (zm1 rfl rfl rfl ?_); refine zc (c_call rfl wTop7_isf28 ⟨_, _, rfl, Zz, rfl, ⟨_, _, rfl, Zz, rfl, rfl⟩⟩ (jTake_spec 6 (Sp.cnfOf raw ((6 : Nat) : Int) 30) (Sp.trimOf (Sp.cnfOf raw ((6 : Nat) : Int) 30) A.2.2.1) htm.1 htm.2.1)) rfl (zm1 rfl rfl rfl ?_); refine zq (p_extract rfl Zz rfl) rfl ?_; refine zq (p_extract rfl Zz rfl) rfl ?_; refine scons (r_alloc (ob := 10017) rfl wTop7_zer29 rfl rfl rfl rfl rfl rfl) (zm2 rfl rfl rfl ?_); refine scons (r_storeS rfl wTop7_siz29 rfl rfl rfl Zz rfl Zz rfl rfl rfl rfl) (snil (f_seq (f_region ?_))); refine zq (p_loadBS rfl wTop7_agg25 wTop7_siz25 Zz rfl rfl rfl) rfl ?_; refine zq (p_fieldRef rfl wTop7_fld36_2 wTop7_siz34 rfl Zz rfl) rfl ?_; refine zq (p_loadB (y := .val _) rfl wTop7_agg34 Zz rfl rfl rfl rfl) rfl ?_; refine zc (c_call rfl wTop7_isf20 ⟨_, _, rfl, Zz, rfl, ⟨_, _, rfl, Zz, rfl, rfl⟩⟩ (resOf_spec 6 (Sp.cnfOf raw ((6 : Nat) : Int) 30) A.2.2.1 htk h0 (by omega))) rfl (zm1 rfl rfl rfl ?_); refine zq (p_extract rfl Zz rfl) rfl ?_; refine zq (p_extract rfl Zz rfl) rfl ?_; refine scons (r_alloc (ob := 10019) rfl wTop7_zer29 rfl rfl rfl rfl rfl rfl) (zm2 rfl rfl rfl ?_); refine scons (r_storeS rfl wTop7_siz29 rfl rfl rfl Zz rfl Zz rfl rfl rfl rfl) (snil (f_seq (f_seq (f_region ?_)))); refine zq (p_fieldRef rfl wTop7_fld29_0 wTop7_siz3 rfl Zz rfl) rfl ?_; refine zq (p_loadB (y := .val _) rfl wTop7_agg3 Zz rfl rfl rfl rfl) rfl ?_; refine zq (p_neq rfl Zz Zz) rfl (zm1 rfl rfl rfl ?_); refine scons (CStep.guard rfl rfl rfl (fun hg0 => PStep.c (p_fieldRef rfl wTop7_fld29_0 wTop7_siz3 rfl Zz rfl)) rfl rfl rfl rfl rfl) ?_; refine scons (CStep.guard rfl rfl rfl (fun hg0 => PStep.c (p_loadB (y := .val _) rfl wTop7_agg3 (Sees.gv' rfl hg0) rfl rfl rfl rfl)) rfl rfl rfl rfl rfl) ?_; refine scons (CStep.guard rfl rfl rfl (fun hg0 => PStep.c (p_neq rfl (Sees.gv' rfl hg0) Zz)) rfl rfl rfl rfl rfl) ?_; refine zq (p_or rfl Zz Zz (fun h => Sees.gv' rfl (beq_of_eq h))) rfl (zm1 rfl rfl rfl ?_); refine scons (CStep.guard rfl rfl rfl (fun hg0 => PStep.c (p_fieldRef rfl wTop7_fld29_0 wTop7_siz3 rfl Zz rfl)) rfl rfl rfl rfl rfl) ?_; refine scons (CStep.guard rfl rfl rfl (fun hg0 => PStep.c (p_loadB (y := .val _) rfl wTop7_agg3 (Sees.gv' rfl hg0) rfl rfl rfl rfl)) rfl rfl rfl rfl rfl) ?_; refine scons (CStep.guard rfl rfl rfl (fun hg0 => PStep.c (p_neq rfl (Sees.gv' rfl hg0) Zz)) rfl rfl rfl rfl rfl) ?_; refine zq (p_or rfl Zz Zz (fun h => Sees.gv' rfl (beq_of_eq h))) rfl (zm1 rfl rfl rfl ?_); refine scons (CStep.guard rfl rfl rfl (fun hg0 => PStep.c (p_fieldRef rfl wTop7_fld29_0 wTop7_siz3 rfl Zz rfl)) rfl rfl rfl rfl rfl) ?_; refine scons (CStep.guard rfl rfl rfl (fun hg0 => PStep.c (p_loadB (y := .val _) rfl wTop7_agg3 (Sees.gv' rfl hg0) rfl rfl rfl rfl)) rfl rfl rfl rfl rfl) ?_; refine scons (CStep.guard rfl rfl rfl (fun hg0 => PStep.c (p_neq rfl (Sees.gv' rfl hg0) Zz)) rfl rfl rfl rfl rfl) ?_; refine zq (p_or rfl Zz Zz (fun h => Sees.gv' rfl (beq_of_eq h))) rfl (zm1 rfl rfl rfl ?_); refine scons (CStep.guard rfl rfl rfl (fun hg0 => PStep.c (p_move (y := .val _) rfl Zz rfl)) rfl rfl rfl rfl rfl) ?_; refine scons (CStep.guard rfl rfl rfl (fun hg0 => PStep.c (p_not rfl (Sees.gv' rfl hg0))) rfl rfl rfl rfl rfl) ?_; refine zq (p_or rfl Zz Zz (fun h => Sees.gv' rfl (beq_of_eq h))) rfl (zm1 rfl rfl rfl ?_); refine scons (CStep.guard rfl rfl rfl (fun hg0 => PStep.c (p_move (y := .val _) rfl Zz rfl)) rfl rfl rfl rfl rfl) ?_; refine scons (CStep.guard rfl rfl rfl (fun hg0 => PStep.c (p_not rfl (Sees.gv' rfl hg0))) rfl rfl rfl rfl rfl) ?_; refine zq (p_or rfl Zz Zz (fun h => Sees.gv' rfl (beq_of_eq h))) rfl (zm1 rfl rfl rfl ?_); refine scons (CStep.guard rfl rfl rfl (fun hg0 => PStep.c (p_move (y := .val _) rfl Zz rfl)) rfl rfl rfl rfl rfl) ?_; refine scons (CStep.guard rfl rfl rfl (fun hg0 => PStep.c (p_not rfl (Sees.gv' rfl hg0))) rfl rfl rfl rfl rfl) ?_; refine zq (p_or rfl Zz Zz (fun h => Sees.gv' rfl (beq_of_eq h))) rfl (zm1 rfl rfl rfl ?_); refine scons (CStep.guard rfl rfl rfl (fun hg0 => PStep.c (p_move (y := .val _) rfl Zz rfl)) rfl rfl rfl rfl rfl) ?_; refine scons (CStep.guard rfl rfl rfl (fun hg0 => PStep.c (p_len rfl wTop7_isl34 (Sees.gv' rfl hg0))) rfl rfl rfl rfl rfl) ?_; refine scons (CStep.guard rfl rfl rfl (fun hg0 => PStep.c (p_fieldRef rfl wTop7_fld36_2 wTop7_siz34 rfl Zz rfl)) rfl rfl rfl rfl rfl) ?_; refine scons (CStep.guard rfl rfl rfl (fun hg0 => PStep.c (p_loadB (y := .val _) rfl wTop7_agg34 (Sees.gv' rfl hg0) rfl rfl rfl rfl)) rfl rfl rfl rfl rfl) ?_; refine scons (CStep.guard rfl rfl rfl (fun hg0 => PStep.c (p_len rfl wTop7_isl34 (Sees.gv' rfl hg0))) rfl rfl rfl rfl rfl) ?_; refine scons (CStep.guard rfl rfl rfl (fun hg0 => PStep.c (p_gtr rfl (Sees.gv' rfl hg0) (Sees.gv' rfl hg0))) rfl rfl rfl rfl rfl) ?_; refine zq (p_or rfl Zz Zz (fun h => Sees.gv' rfl (beq_of_eq h))) rfl (snil (f_cond rfl ?_ ?_))
      · intro hc3; (try simp only [bs] at hc3)
        exfalso
        have h9 := htm.2.2
        rcases hc3 with ((((((h | h) | h) | h) | h) | h) | h) | h
        · exact h trivial
        · exact h trivial
        · exact h trivial
        · exact h trivial
        · cases h
        · cases h
        · cases h
        · rw [Sp.lrn_len, Sp.lrn_len] at h
          omega
      · intro hc3; (try simp only [bs] at hc3); refine f_skip (f_seq (f_seq (f_region ?_))); refine zq (p_fieldRef rfl wTop7_fld29_0 wTop7_siz3 rfl Zz rfl) rfl ?_; refine zq (p_loadB (y := .val _) rfl wTop7_agg3 Zz rfl rfl rfl rfl) rfl ?_; refine zq (p_neq rfl Zz Zz) rfl (snil (f_cond rfl ?_ ?_))
        · intro hc4; (try simp only [bs] at hc4); refine f_seq (f_region ?_); refine zq (p_fieldRef rfl wTop7_fld29_0 wTop7_siz3 rfl Zz rfl) rfl ?_; refine zq (p_loadB (y := .val _) rfl wTop7_agg3 Zz rfl rfl rfl rfl) rfl ?_; refine zq (p_eql rfl Zz Zz) rfl (zm2 rfl rfl rfl (snil (f_ret ?_)))
          refine ends_ret (res_eq (res1 rfl (res_tmp rfl (Sees.of rfl))) ?_)
          rw [hX.many hc4]
          rfl
        · intro hc4; (try simp only [bs] at hc4)
          obtain ⟨hR1, hR2, hR3⟩ := Sp.trok_all hX hck
          have hXl := hX.ll
          refine f_skip (f_seq (f_region ?_)); refine zq (p_loadBS rfl wTop7_agg25 wTop7_siz25 Zz rfl rfl rfl) rfl (zm1 rfl rfl rfl ?_); refine zc (c_call rfl wTop7_isf30 ⟨_, _, rfl, Zz, rfl, ⟨_, _, rfl, Zz, rfl, rfl⟩⟩ (resCheck_spec ((6 : Nat) : Int) (Sp.cnfOf raw ((6 : Nat) : Int) 30) (Sp.trOf (Sp.cnfOf raw ((6 : Nat) : Int) 30) A.2.2.1).1)) rfl (zm1 rfl rfl rfl ?_); refine zq (p_extract rfl Zz rfl) rfl ?_; refine zq (p_extract rfl Zz rfl) rfl ?_; refine scons (r_alloc (ob := 10021) rfl wTop7_zer29 rfl rfl rfl rfl rfl rfl) (zm2 rfl rfl rfl ?_); refine scons (r_storeS rfl wTop7_siz29 rfl rfl rfl Zz rfl Zz rfl rfl rfl rfl) (snil (f_seq (f_seq (f_region (zm1 rfl rfl rfl ?_))))); refine zq (p_len rfl wTop7_isl64 Zz) rfl ?_; refine zq (p_eql rfl Zz Zz) rfl (snil (f_cond rfl ?_ ?_))
          · intro hc5; (try simp only [bs] at hc5)
            have hne := hX.none_ (hX.zero hc4) (by omega)
            refine f_seq (f_seq (f_region (zm2 rfl rfl rfl (snil (f_block ?_)))))
            refine f_loop (α := Nat) (fun i => i ≤ (Sp.cnfOf raw ((6 : Nat) : Int) 30).length ∧ ∀ c ∈ (Sp.cnfOf raw ((6 : Nat) : Int) 30).take i, c ≠ []) (fun i => [(22, iv i), (5, .ref 10005 0 0), (10005, .box 0 (.ccons (iv 6) (.ccons (.val (intss (Sp.cnfOf raw ((6 : Nat) : Int) 30))) .cnil))), (21, .ref 10021 0 0), (10021, .box 0 (.ccons (iv (Sp.resO ((6 : Nat) : Int) (Sp.cnfOf raw ((6 : Nat) : Int) 30) (Sp.trOf (Sp.cnfOf raw ((6 : Nat) : Int) 30) A.2.2.1).1).2.1) (.ccons (iv (Sp.resO ((6 : Nat) : Int) (Sp.cnfOf raw ((6 : Nat) : Int) 30) (Sp.trOf (Sp.cnfOf raw ((6 : Nat) : Int) 30) A.2.2.1).1).2.2) .cnil)))]) (fun i => (Sp.cnfOf raw ((6 : Nat) : Int) 30).length - i) 0 ?_ ?_ ?_
            · exact ⟨Nat.zero_le _, by simp⟩
            · exact le_ofL ⟨rfl, rfl, rfl, rfl, rfl, trivial⟩ rfl
            · rintro i ⟨hi, hp⟩
              refine f_seq (f_seq (f_region (zm1 rfl rfl rfl ?_))); refine zq (p_fieldRef rfl wTop7_fld25_1 wTop7_siz23 rfl Zz rfl) rfl ?_; refine zq (p_loadB (y := .val _) rfl wTop7_agg23 Zz rfl rfl rfl rfl) rfl ?_; refine zq (p_len rfl wTop7_isl23 Zz) rfl ?_; refine zq (p_lss rfl Zz Zz) rfl (snil (f_cond rfl ?_ ?_))
              · intro hc6; (try simp only [bs] at hc6); refine f_skip (f_seq (f_block (f_seq (f_region ?_)))); refine zq (p_fieldRef rfl wTop7_fld25_1 wTop7_siz23 rfl Zz rfl) rfl ?_; refine zq (p_loadB (y := .val _) rfl wTop7_agg23 Zz rfl rfl rfl rfl) rfl (zm1 rfl rfl rfl ?_); refine zq ((by first | exact p_indexN rfl wTop7_isl23 wTop7_siz22 Zz Zz (by omega) | exact p_index rfl wTop7_isl23 wTop7_siz22 Zz Zz (by omega) (by omega))) rfl ?_; refine zq (p_load rfl wTop7_agg22 Zz rfl) rfl ?_; refine zq (p_len rfl wTop7_isl22 Zz) rfl ?_; refine zq (p_eql rfl Zz Zz) rfl (snil (f_cond rfl ?_ ?_))
                · intro hc7; (try simp only [bs] at hc7); refine f_seq (f_region ?_); refine zq (p_fieldRef rfl wTop7_fld29_0 wTop7_siz3 rfl Zz rfl) rfl ?_; refine zq (p_loadB (y := .val _) rfl wTop7_agg3 Zz rfl rfl rfl rfl) rfl ?_; refine zq (p_eql rfl Zz Zz) rfl (zm2 rfl rfl rfl (snil (f_ret ?_)))
                  refine ends_ret (res_eq (res1 rfl (res_tmp rfl (Sees.of rfl))) ?_)
                  rw [hR1]
                  rfl
                · intro hc7; (try simp only [bs] at hc7); refine f_skip (f_nil ?_); show AWs _ _ _ _ _; refine f_region (zm1 rfl rfl rfl ?_); refine zq (p_add rfl Zz Zz (by omega)) rfl (zm2 rfl rfl rfl (snil ?_))
                  refine f_back ⟨i + 1, ?_, ?_, le_ofL ⟨rfl, rfl, rfl, rfl, rfl, trivial⟩ rfl⟩
                  · exact ⟨by omega, Sp.step_all (z := []) (by omega) hp (fun h => hc7 (by rw [h]; rfl))⟩
                  · omega
              · intro hc6; (try simp only [bs] at hc6)
                exfalso
                exact hp [] (by rw [List.take_of_length_le (by omega)]; exact hne) rfl
          · intro hc5; (try simp only [bs] at hc5); refine f_skip (f_seq (f_region ?_)); refine zq (p_fieldRef rfl wTop7_fld29_0 wTop7_siz3 rfl Zz rfl) rfl ?_; refine zq (p_loadB (y := .val _) rfl wTop7_agg3 Zz rfl rfl rfl rfl) rfl ?_; refine zq (p_eql rfl Zz Zz) rfl (zm1 rfl rfl rfl ?_); refine scons (CStep.guard rfl rfl rfl (fun hg0 => PStep.c (p_move (y := .val _) rfl Zz rfl)) rfl rfl rfl rfl rfl) ?_; refine scons (CStep.guard rfl rfl rfl (fun hg0 => PStep.c (p_len rfl wTop7_isl23 (Sees.gv' rfl hg0))) rfl rfl rfl rfl rfl) ?_; refine scons (CStep.guard rfl rfl rfl (fun hg0 => PStep.c (p_move (y := .val _) rfl Zz rfl)) rfl rfl rfl rfl rfl) ?_; refine scons (CStep.guard rfl rfl rfl (fun hg0 => PStep.c (p_len rfl wTop7_isl64 (Sees.gv' rfl hg0))) rfl rfl rfl rfl rfl) ?_; refine scons (CStep.guard rfl rfl rfl (fun hg0 => PStep.c (p_eql rfl (Sees.gv' rfl hg0) (Sees.gv' rfl hg0))) rfl rfl rfl rfl rfl) ?_; refine zq (p_and rfl Zz (fun h => Sees.gv' rfl (beq_of_eq h)) Zz) rfl (zm1 rfl rfl rfl ?_); refine scons (CStep.guard rfl rfl rfl (fun hg0 => PStep.c (p_move (y := .val _) rfl Zz rfl)) rfl rfl rfl rfl rfl) ?_; refine scons (CStep.guard rfl rfl rfl (fun hg0 => PStep.c (p_move (y := .val _) rfl Zz rfl)) rfl rfl rfl rfl rfl) ?_; refine scons (CStep.guard rfl rfl rfl (fun hg0 => PStep.c (p_len rfl wTop7_isl23 (Sees.gv' rfl hg0))) rfl rfl rfl rfl rfl) ?_; refine scons (CStep.guard rfl rfl rfl (fun hg0 => by have hp0 := hg0; (try simp only [bs] at hp0); exact PStep.c (p_sub rfl (Sees.gv' rfl hg0) Zz (by omega))) rfl rfl rfl rfl rfl) ?_; refine scons (CStep.guard rfl rfl rfl (fun hg0 => by have hp0 := hg0; (try simp only [bs] at hp0); exact PStep.c ((by first | exact p_indexN rfl wTop7_isl23 wTop7_siz22 (Sees.gv' rfl hg0) (Sees.gv' rfl hg0) (by omega) | exact p_index rfl wTop7_isl23 wTop7_siz22 (Sees.gv' rfl hg0) (Sees.gv' rfl hg0) (by omega) (by omega)))) rfl rfl rfl rfl rfl) ?_; refine scons (CStep.guard rfl rfl rfl (fun hg0 => PStep.c (p_load rfl wTop7_agg22 (Sees.gv' rfl hg0) rfl)) rfl rfl rfl rfl rfl) ?_; refine scons (CStep.guard rfl rfl rfl (fun hg0 => PStep.c (p_len rfl wTop7_isl22 (Sees.gv' rfl hg0))) rfl rfl rfl rfl rfl) ?_; refine scons (CStep.guard rfl rfl rfl (fun hg0 => PStep.c (p_eql rfl (Sees.gv' rfl hg0) Zz)) rfl rfl rfl rfl rfl) ?_; refine zq (p_and rfl Zz (fun h => Sees.gv' rfl (beq_of_eq h)) Zz) rfl (zm2 rfl rfl rfl (snil (f_ret ?_)))
            refine ends_ret (res_eq (res1 rfl (res_tmp rfl (Sees.of rfl))) ?_)
            rw [hR3 (by omega), hR2, hR1]
            simp

end Go.Um
