/- Walks of Go functions of this seat, each by its contract. No condition beyond what each theorem says. -/
import Derived.Test.YtfjafkocejoigaaGreatWCd3
import Derived.Test.YtfjafkocejoigaaGreatSq8
import Derived.Test.YtfjafkocejoigaaGreatWLst
import Derived.Test.YtfjafkocejoigaaGreatWSat
import Derived.Test.YtfjafkocejoigaaGreatProg
import Derived.KernelRfl
import Derived.Test.YtfjafkocejoigaaGreatQ
set_option maxRecDepth 4000
namespace Go.Um
open Go Go.RowKit

theorem wChk_byt22 : Bytes Go.Proofs.Tryz.prog 22 24 := by unfold Bytes; kernel_rfl
theorem wChk_isl22 : IsSlice Go.Proofs.Tryz.prog 22 3 := by unfold IsSlice; kernel_rfl
theorem wChk_isl23 : IsSlice Go.Proofs.Tryz.prog 23 22 := by unfold IsSlice; kernel_rfl
theorem wChk_siz22 : Size Go.Proofs.Tryz.prog 22 1 := by unfold Size; kernel_rfl
def wChk_z29 : D := .cons (.int .i64 0) (.cons (.int .i64 0) (.nil))
theorem wChk_zer22 : Zero Go.Proofs.Tryz.prog 22 (.slice none 0 0) := by unfold Zero; kernel_rfl
theorem cloneII_spec (a : List (List Int)) (hla : a.length ≤ 1000000) :
    SpecN Go.Proofs.Tryz.prog 49 [.val (intss a)] 22 1 24 ints a := by
  refine specN_of' Go.Proofs.Tryz.func49 rfl Go.Proofs.Tryz.ntmps49 rfl ?_
  refine f_seq ?_
  refine f_wf (.tmp 0) rfl (fun hwf => ?_) (by simp)
  have hlen : a.length ≤ 140737488355328 := hwf.1
  clear hwf
  refine f_sl 0 rfl rfl (fun b hb => ?_) (by simp)
  refine f_region (zm5 rfl rfl rfl (snil (f_seq (f_seq (f_region (zm1 rfl rfl rfl ?_)))))); refine zq (p_eqlNil rfl wChk_isl23 rfl rfl) rfl (snil (f_cond rfl ?_ ?_))
  · intro hc1; (try simp only [bs] at hc1); refine f_seq (f_region (zm5 rfl rfl rfl (snil (f_ret ?_))))
    refine endsN_ret (resN_eq (resN_emp rfl rfl rfl rfl) ?_)
    exact (hb hc1).symm
  · intro hc1; (try simp only [bs] at hc1); refine f_skip (f_seq (f_region ?_)); refine scons (r_buildRow (f := ints) (za := []) (xs := []) (by_ := 24) (ob := 10005) rfl rfl wChk_isl23 wChk_siz22 wChk_zer22 rfl rfl (by decide) rfl rfl rfl rfl rfl rfl) (zm1 rfl rfl rfl ?_); refine scons (r_appendR (ob := 10005) rfl wChk_isl23 wChk_siz22 wChk_byt22 wChk_zer22 rfl rfl Zz rfl (Sees.sl rfl) (by simp only [List.length_cons, List.length_nil, List.length_append]; omega) (by simp only [List.length_cons, List.length_nil, List.length_append]; omega) rfl rfl rfl rfl rfl) ?_; refine zm4 rfl rfl rfl (snil (f_ret ?_))
    refine endsN_ret (resN_eq (resN_row rfl rfl rfl rfl) ?_)
    rfl

theorem why2_spec (l : List Int) :
    Spec Go.Proofs.Tryz.prog 57 [.val (ints l)] (D.bool (decide (l = []))) := by
  refine spec_of' Go.Proofs.Tryz.func57 rfl Go.Proofs.Tryz.ntmps57 rfl ?_
  refine f_seq (f_region (zm2 rfl rfl rfl (snil (f_seq (f_region (zm1 rfl rfl rfl ?_)))))); refine zq (p_len rfl wChk_isl22 Zz) rfl ?_; refine zq (p_eql rfl Zz Zz) rfl (zm2 rfl rfl rfl (snil (f_ret ?_)))
  refine ends_ret (res_eq (res1 rfl (res_tmp rfl (Sees.of rfl))) ?_)
  simp

end Go.Um
