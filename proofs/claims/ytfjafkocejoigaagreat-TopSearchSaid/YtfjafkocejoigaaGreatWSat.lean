/- Walks of Go functions of this seat, each by its contract. No condition beyond what each theorem says. -/
import Derived.Test.YtfjafkocejoigaaGreatBB
import Derived.Test.YtfjafkocejoigaaGreatWCnf
import Derived.Test.YtfjafkocejoigaaGreatProg
import Derived.KernelRfl
import Derived.Test.YtfjafkocejoigaaGreatQ
set_option maxRecDepth 4000
namespace Go.Um
open Go Go.RowKit

theorem wSat_agg33 : IsAgg Go.Proofs.Tryz.prog 33 false := by unfold IsAgg; kernel_rfl
theorem wSat_agg4 : IsAgg Go.Proofs.Tryz.prog 4 false := by unfold IsAgg; kernel_rfl
theorem wSat_boo4 : IsBool Go.Proofs.Tryz.prog 4 := by unfold IsBool; kernel_rfl
theorem wSat_isf121 : IsFn Go.Proofs.Tryz.prog 121 := by unfold IsFn; kernel_rfl
theorem wSat_isf122 : IsFn Go.Proofs.Tryz.prog 122 := by unfold IsFn; kernel_rfl
theorem wSat_isf123 : IsFn Go.Proofs.Tryz.prog 123 := by unfold IsFn; kernel_rfl
theorem wSat_isf43 : IsFn Go.Proofs.Tryz.prog 43 := by unfold IsFn; kernel_rfl
theorem wSat_isf56 : IsFn Go.Proofs.Tryz.prog 56 := by unfold IsFn; kernel_rfl
theorem wSat_isf87 : IsFn Go.Proofs.Tryz.prog 87 := by unfold IsFn; kernel_rfl
theorem wSat_isf88 : IsFn Go.Proofs.Tryz.prog 88 := by unfold IsFn; kernel_rfl
theorem wSat_isl33 : IsSlice Go.Proofs.Tryz.prog 33 4 := by unfold IsSlice; kernel_rfl
theorem wSat_siz4 : Size Go.Proofs.Tryz.prog 4 1 := by unfold Size; kernel_rfl
theorem true_spec (x : Int) (a : List Bool) (hx : x ≠ 0 ∧ -(a.length : Int) ≤ x ∧ x ≤ a.length) :
    Spec Go.Proofs.Tryz.prog 123 [iv x, .val (bools a)] (D.bool (Sp.lit a x)) := by
  refine spec_of' Go.Proofs.Tryz.func123 rfl Go.Proofs.Tryz.ntmps123 rfl ?_
  refine f_seq ?_
  refine f_wf (.tmp 1) rfl (fun hwf => ?_) (by simp)
  have hlen : a.length ≤ 140737488355328 := hwf.1
  clear hwf
  refine f_region (zm2 rfl rfl rfl (snil (f_seq (f_region (zm1 rfl rfl rfl (zm1 rfl rfl rfl ?_)))))); refine zc (c_call rfl wSat_isf43 ⟨_, _, rfl, Zz, rfl, rfl⟩ (var_spec x (by omega))) rfl ?_; refine zq (p_sub rfl Zz Zz (by omega)) rfl ?_; refine zq ((by first | exact p_indexN rfl wSat_isl33 wSat_siz4 Zz Zz (by omega) | exact p_index rfl wSat_isl33 wSat_siz4 Zz Zz (by omega) (by omega))) rfl ?_; refine zq (p_load rfl wSat_agg4 Zz rfl) rfl (zm1 rfl rfl rfl ?_); refine zq (p_gtr rfl Zz Zz) rfl ?_; refine zq (p_eqlB rfl wSat_boo4 Zz Zz) rfl (zm2 rfl rfl rfl (snil (f_ret ?_)))
  refine ends_ret (res_eq (res1 rfl (res_tmp rfl (Sees.of rfl))) ?_)
  unfold Sp.lit
  by_cases h : 0 < x
  · rw [if_pos h, Int.max_eq_left (by omega)]; simp [h]
  · rw [if_neg h, Int.max_eq_right (by omega)]; simp [h]

theorem sat1_spec (x : Int) (a : List Bool) (hx : x ≠ 0 ∧ -(a.length : Int) ≤ x ∧ x ≤ a.length) :
    Spec Go.Proofs.Tryz.prog 122 [iv x, .ptr (bools a)] (D.bool (Sp.lit a x)) := by
  refine spec_of' Go.Proofs.Tryz.func122 rfl Go.Proofs.Tryz.ntmps122 rfl ?_
  refine f_seq (f_region (zm2 rfl rfl rfl (snil (f_seq (f_region (zm1 rfl rfl rfl ?_)))))); refine zq (p_load rfl wSat_agg33 Zz rfl) rfl ?_; refine zc (c_call rfl wSat_isf123 ⟨_, _, rfl, Zz, rfl, ⟨_, _, rfl, Zz, rfl, rfl⟩⟩ (true_spec x a hx)) rfl (zm2 rfl rfl rfl (snil (f_ret ?_)))
  refine ends_ret (res_eq (res1 rfl (res_tmp rfl (Sees.of rfl))) ?_)
  rfl

theorem csat_spec (l : List Int) (a : List Bool) (hG : Sp.Good a.length l) :
    Spec Go.Proofs.Tryz.prog 88 [.val (ints l), .val (bools a)] (D.bool (Sp.sat a l)) := by
  refine spec_of' Go.Proofs.Tryz.func88 rfl Go.Proofs.Tryz.ntmps88 rfl ?_
  refine f_seq (f_region ?_); refine scons (r_box (ob := 10003) rfl Zz rfl rfl rfl rfl rfl rfl) (zm2 rfl rfl rfl (snil (f_seq (f_region (zm1 rfl rfl rfl ?_))))); refine zq (p_makeFunc (l := [.tmp 3]) rfl) rfl ?_; refine zc (c_callS (q := true) rfl wSat_isf121 (containsI_spec l (Sp.lit a) (fun x => x ≠ 0 ∧ -(a.length : Int) ≤ x ∧ x ≤ a.length) hG) (sa_cons (sh_of Zz rfl) (sa_cons (sh_clo Zz wSat_isf122 (sl_cons (sh_ref1 Sees.same rfl rfl (sh_of Sees.same rfl)) (sl_nil)) (fun _ => rfl) (fun _ => rfl) (fun y => sat1_spec y.1 a y.2)) (sa_nil))) rfl) rfl (zm2 rfl rfl rfl (snil (f_ret ?_)))
  refine ends_ret (res_eq (res1 rfl (res_tmp rfl (Sees.of rfl))) ?_)
  rfl

theorem call1_spec (l : List Int) (a : List Bool) (hG : Sp.Good a.length l) :
    Spec Go.Proofs.Tryz.prog 87 [.val (ints l), .ptr (bools a)] (D.bool (!Sp.sat a l)) := by
  refine spec_of' Go.Proofs.Tryz.func87 rfl Go.Proofs.Tryz.ntmps87 rfl ?_
  refine f_seq (f_region (zm2 rfl rfl rfl (snil (f_seq (f_region (zm1 rfl rfl rfl ?_)))))); refine zq (p_load rfl wSat_agg33 Zz rfl) rfl ?_; refine zc (c_call rfl wSat_isf88 ⟨_, _, rfl, Zz, rfl, ⟨_, _, rfl, Zz, rfl, rfl⟩⟩ (csat_spec l a hG)) rfl ?_; refine zq (p_not rfl Zz) rfl (zm2 rfl rfl rfl (snil (f_ret ?_)))
  refine ends_ret (res_eq (res1 rfl (res_tmp rfl (Sees.of rfl))) ?_)
  rfl

theorem call_spec (ls : List (List Int)) (a : List Bool) (hG : ∀ l ∈ ls, Sp.Good a.length l) :
    Spec Go.Proofs.Tryz.prog 44 [.val (intss ls), .val (bools a)] (D.bool (Sp.all a ls)) := by
  refine spec_of' Go.Proofs.Tryz.func44 rfl Go.Proofs.Tryz.ntmps44 rfl ?_
  refine f_seq (f_region ?_); refine scons (r_box (ob := 10003) rfl Zz rfl rfl rfl rfl rfl rfl) (zm2 rfl rfl rfl (snil (f_seq (f_region (zm1 rfl rfl rfl ?_))))); refine zq (p_makeFunc (l := [.tmp 3]) rfl) rfl ?_; refine zc (c_callS (q := true) rfl wSat_isf56 (containsII_spec ls (fun l => !Sp.sat a l) (fun l => Sp.Good a.length l) hG) (sa_cons (sh_of Zz rfl) (sa_cons (sh_clo Zz wSat_isf87 (sl_cons (sh_ref1 Sees.same rfl rfl (sh_of Sees.same rfl)) (sl_nil)) (fun _ => rfl) (fun _ => rfl) (fun y => call1_spec y.1 a y.2)) (sa_nil))) rfl) rfl ?_; refine zq (p_not rfl Zz) rfl (zm2 rfl rfl rfl (snil (f_ret ?_)))
  refine ends_ret (res_eq (res1 rfl (res_tmp rfl (Sees.of rfl))) ?_)
  rw [Sp.all, List.all_eq_not_any_not]

end Go.Um
