/- Walks of Go functions of this seat, each by its contract. No condition beyond what each theorem says. -/
import Derived.Test.YtfjafkocejoigaaWCnf
import Derived.Test.YtfjafkocejoigaaPB
import Derived.Test.YtfjafkocejoigaaPA
import Derived.Test.YtfjafkocejoigaaBD
import Derived.Test.YtfjafkocejoigaaProg
import Derived.KernelRfl
import Derived.Test.YtfjafkocejoigaaQ
set_option maxRecDepth 4000
namespace Go.Um
open Go Go.RowKit

theorem wLst_agg3 : IsAgg Go.Proofs.Try.prog 3 false := by unfold IsAgg; kernel_rfl
theorem wLst_isf58 : IsFn Go.Proofs.Try.prog 58 := by unfold IsFn; kernel_rfl
theorem wLst_isl73 : IsSlice Go.Proofs.Try.prog 73 3 := by unfold IsSlice; kernel_rfl
theorem wLst_siz3 : Size Go.Proofs.Try.prog 3 1 := by unfold Size; kernel_rfl

theorem idxI_spec (l : List Int) (x : Int) :
    Spec Go.Proofs.Try.prog 58 [.val (ints l), iv x] (di (Sp.place l x)) := by
  refine spec_of' Go.Proofs.Try.func58 rfl Go.Proofs.Try.ntmps58 rfl ?_
  refine f_seq ?_
  refine f_wf (.tmp 0) rfl (fun hwf => ?_) (by simp)
  have hlen : l.length ≤ 140737488355328 := hwf.1
  clear hwf
  refine f_region (zm2 rfl rfl rfl (snil (f_seq (f_seq (f_region (zm1 rfl rfl rfl ?_)))))); refine zq (p_len rfl wLst_isl73 Zz) rfl (zm1 rfl rfl rfl (snil (f_block ?_)))
  refine f_loop (α := Nat) (fun i => i ≤ l.length ∧ ∀ y ∈ l.take i, decide (y = x) = false) (fun i => [(8, iv i), (0, .val (ints l)), (1, iv x), (7, iv l.length)]) (fun i => l.length - i) 0 ?_ ?_ ?_
  · exact ⟨Nat.zero_le _, by simp⟩
  · exact le_ofL ⟨rfl, rfl, rfl, rfl, trivial⟩ rfl
  · rintro i ⟨hi, hp⟩
    refine f_seq (f_region ?_); refine zq (p_lss rfl Zz Zz) rfl (snil (f_seq (f_cond rfl ?_ ?_)))
    · intro hc1; (try simp only [bs] at hc1); refine f_skip (f_seq (f_block (f_seq (f_region (zm1 rfl rfl rfl (zm2 rfl rfl rfl (snil (f_seq (f_region (zm1 rfl rfl rfl (zm1 rfl rfl rfl (zm1 rfl rfl rfl ?_)))))))))))); refine zq ((by first | exact p_indexN rfl wLst_isl73 wLst_siz3 Zz Zz (by omega) | exact p_index rfl wLst_isl73 wLst_siz3 Zz Zz (by omega) (by omega))) rfl ?_; refine zq (p_load rfl wLst_agg3 Zz rfl) rfl ?_; refine zq (p_eql rfl Zz Zz) rfl (snil (f_cond rfl ?_ ?_))
      · intro hc2; (try simp only [bs] at hc2); refine f_seq (f_region (zm1 rfl rfl rfl (zm2 rfl rfl rfl (snil (f_ret ?_)))))
        refine ends_ret (res_eq (res1 rfl (res_tmp rfl (Sees.of rfl))) ?_)
        rw [Sp.place, Sp.idx_at (z := 0) (by omega) hp (decide_eq_true hc2.symm)]
      · intro hc2; (try simp only [bs] at hc2); refine f_skip (f_nil ?_); show AWs _ _ _ _ _; refine f_region ?_; refine zq (p_add rfl Zz Zz (by omega)) rfl (zm1 rfl rfl rfl (snil ?_))
        refine f_back ⟨i + 1, ?_, ?_, le_ofL ⟨rfl, rfl, rfl, rfl, trivial⟩ rfl⟩
        · exact ⟨by omega, Sp.step_all (z := 0) (by omega) hp (decide_eq_false (fun h => hc2 h.symm))⟩
        · omega
    · intro hc1; (try simp only [bs] at hc1); refine f_exit ?_; show AWs _ _ _ _ _; refine f_seq (f_region (zm2 rfl rfl rfl (snil (f_ret ?_))))
      refine ends_ret (res_eq (res1 rfl (res_tmp rfl (Sees.of rfl))) ?_)
      rw [List.take_of_length_le (by omega)] at hp
      rw [Sp.place, Sp.idx_none hp]

theorem hasI_spec (l : List Int) (x : Int) :
    Spec Go.Proofs.Try.prog 48 [.val (ints l), iv x] (D.bool (decide (x ∈ l))) := by
  refine spec_of' Go.Proofs.Try.func48 rfl Go.Proofs.Try.ntmps48 rfl ?_
  refine f_seq (f_region (zm2 rfl rfl rfl (snil (f_seq (f_region (zm1 rfl rfl rfl (zm1 rfl rfl rfl ?_))))))); refine zc (c_call rfl wLst_isf58 ⟨_, _, rfl, Zz, rfl, ⟨_, _, rfl, Zz, rfl, rfl⟩⟩ (idxI_spec l x)) rfl ?_; refine zq (p_geq rfl Zz Zz) rfl (zm2 rfl rfl rfl (snil (f_ret ?_)))
  refine ends_ret (res_eq (res1 rfl (res_tmp rfl (Sees.of rfl))) ?_)
  congr 1
  exact decide_eq_decide.2 Sp.place_lt.symm

end Go.Um
