/- Walks of Go functions of this seat, each by its contract. No condition beyond what each theorem says. -/
import Derived.Test.YtfjafkocejoigaaGreatWOrd
import Derived.Test.YtfjafkocejoigaaGreatBD
import Derived.Test.YtfjafkocejoigaaGreatBC
import Derived.Test.YtfjafkocejoigaaGreatPA
import Derived.Test.YtfjafkocejoigaaGreatProg
import Derived.KernelRfl
import Derived.Test.YtfjafkocejoigaaGreatQ
set_option maxRecDepth 4000
namespace Go.Um
open Go Go.RowKit

theorem wNorm_agg3 : IsAgg Go.Proofs.Tryz.prog 3 false := by unfold IsAgg; kernel_rfl
theorem wNorm_isl22 : IsSlice Go.Proofs.Tryz.prog 22 3 := by unfold IsSlice; kernel_rfl
theorem wNorm_mix : (Go.Proofs.Tryz.prog).follows .mixedOrders = true := by kernel_rfl
theorem wNorm_siz3 : Size Go.Proofs.Tryz.prog 3 1 := by unfold Size; kernel_rfl
theorem equal_spec (a b : List Int) :
    Spec Go.Proofs.Tryz.prog 54 [.val (ints a), .val (ints b)] (D.bool (decide (a = b))) := by
  refine spec_of' Go.Proofs.Tryz.func54 rfl Go.Proofs.Tryz.ntmps54 rfl ?_
  refine f_seq ?_
  refine f_wf (.tmp 0) rfl (fun hwf => ?_) (by simp)
  have hlen : a.length ≤ 140737488355328 := hwf.1
  clear hwf
  refine f_region (zm2 rfl rfl rfl (snil (f_seq (f_seq (f_region (zm1 rfl rfl rfl ?_)))))); refine zq (p_len rfl wNorm_isl22 Zz) rfl (zm1 rfl rfl rfl ?_); refine zq (p_len rfl wNorm_isl22 Zz) rfl ?_; refine zq (p_neq rfl Zz Zz) rfl (snil (f_cond rfl ?_ ?_))
  · intro hc1; (try simp only [bs] at hc1); refine f_seq (f_region (zm2 rfl rfl rfl (snil (f_ret ?_))))
    refine ends_ret (res_eq (res1 rfl (res_tmp rfl (Sees.of rfl))) ?_)
    rw [decide_eq_false (fun h => hc1 (by rw [h]))]
  · intro hc1; (try simp only [bs] at hc1); refine f_skip (f_seq (f_seq (f_region (zm1 rfl rfl rfl ?_)))); refine zq (p_len rfl wNorm_isl22 Zz) rfl (zm1 rfl rfl rfl (snil (f_block ?_)))
    refine f_loop (α := Nat) (fun i => i ≤ a.length ∧ ∀ j, j < i → a.getD j 0 = b.getD j 0) (fun i => [(13, iv i), (0, .val (ints a)), (1, .val (ints b)), (12, iv a.length)]) (fun i => a.length - i) 0 ?_ ?_ ?_
    · exact ⟨Nat.zero_le _, fun j hj => absurd hj (Nat.not_lt_zero _)⟩
    · exact le_ofL ⟨rfl, rfl, rfl, rfl, trivial⟩ rfl
    · rintro i ⟨hi, hp⟩
      refine f_seq (f_region ?_); refine zq (p_lss rfl Zz Zz) rfl (snil (f_seq (f_cond rfl ?_ ?_)))
      · intro hc2; (try simp only [bs] at hc2); refine f_skip (f_seq (f_block (f_seq (f_region (zm1 rfl rfl rfl (zm2 rfl rfl rfl (snil (f_seq ?_)))))))); refine f_draw wNorm_mix (by kernel_rfl) (zd1 rfl rfl rfl (zd1 rfl rfl rfl ?_)); refine yq ((by first | exact p_indexN rfl wNorm_isl22 wNorm_siz3 Zz Zz (by omega) | exact p_index rfl wNorm_isl22 wNorm_siz3 Zz Zz (by omega) (by omega))) rfl ?_; refine yq (p_load rfl wNorm_agg3 Zz rfl) rfl (zd1 rfl rfl rfl (zd1 rfl rfl rfl ?_)); refine yq ((by first | exact p_indexN rfl wNorm_isl22 wNorm_siz3 Zz Zz (by omega) | exact p_index rfl wNorm_isl22 wNorm_siz3 Zz Zz (by omega) (by omega))) rfl ?_; refine yq (p_load rfl wNorm_agg3 Zz rfl) rfl ?_; refine yq (p_neq rfl Zz Zz) rfl ?_; refine dnil (by kernel_rfl) (f_cond rfl ?_ ?_)
        · intro hc3; (try simp only [bs] at hc3); refine f_seq (f_region (zm2 rfl rfl rfl (snil (f_ret ?_))))
          refine ends_ret (res_eq (res1 rfl (res_tmp rfl (Sees.of rfl))) ?_)
          rw [decide_eq_false (fun h => by rw [h] at hc3; simp at hc3)]
        · intro hc3; (try simp only [bs] at hc3); refine f_skip (f_nil ?_); show AWs _ _ _ _ _; refine f_region ?_; refine zq (p_add rfl Zz Zz (by omega)) rfl (zm1 rfl rfl rfl (snil ?_))
          refine f_back ⟨i + 1, ?_, ?_, le_ofL ⟨rfl, rfl, rfl, rfl, trivial⟩ rfl⟩
          · refine ⟨by omega, fun j hj => ?_⟩
            by_cases e : j = i
            · rw [e]; exact hc3
            · exact hp j (by omega)
          · omega
      · intro hc2; (try simp only [bs] at hc2); refine f_exit ?_; show AWs _ _ _ _ _; refine f_seq (f_region (zm2 rfl rfl rfl (snil (f_ret ?_))))
        refine ends_ret (res_eq (res1 rfl (res_tmp rfl (Sees.of rfl))) ?_)
        rw [decide_eq_true (Sp.ints_eq (by omega) (fun j hj => hp j (by omega)))]

end Go.Um
