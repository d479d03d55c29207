/- Walks of Go functions of this seat, each by its contract. No condition beyond what each theorem says. -/
import Derived.Test.YtfjafkocejoigaaGreatLay
import Derived.Test.YtfjafkocejoigaaGreatSort2
import Derived.Test.YtfjafkocejoigaaGreatWCnf
import Derived.Test.YtfjafkocejoigaaGreatProg
import Derived.KernelRfl
import Derived.Test.YtfjafkocejoigaaGreatQ
set_option maxRecDepth 4000
namespace Go.Um
open Go Go.RowKit

theorem wOrd_agg3 : IsAgg Go.Proofs.Tryz.prog 3 false := by unfold IsAgg; kernel_rfl
theorem wOrd_byt3 : Bytes Go.Proofs.Tryz.prog 3 8 := by unfold Bytes; kernel_rfl
theorem wOrd_isf126 : IsFn Go.Proofs.Tryz.prog 126 := by unfold IsFn; kernel_rfl
theorem wOrd_isf127 : IsFn Go.Proofs.Tryz.prog 127 := by unfold IsFn; kernel_rfl
theorem wOrd_isf167 : IsFn Go.Proofs.Tryz.prog 167 := by unfold IsFn; kernel_rfl
theorem wOrd_isf43 : IsFn Go.Proofs.Tryz.prog 43 := by unfold IsFn; kernel_rfl
theorem wOrd_isf77 : IsFn Go.Proofs.Tryz.prog 77 := by unfold IsFn; kernel_rfl
theorem wOrd_isf91 : IsFn Go.Proofs.Tryz.prog 91 := by unfold IsFn; kernel_rfl
theorem wOrd_isl22 : IsSlice Go.Proofs.Tryz.prog 22 3 := by unfold IsSlice; kernel_rfl
theorem wOrd_siz3 : Size Go.Proofs.Tryz.prog 3 1 := by unfold Size; kernel_rfl
theorem wOrd_zer3 : Zero Go.Proofs.Tryz.prog 3 (.int .i64 0) := by unfold Zero; kernel_rfl

theorem isnan_spec (x : Int) :
    Spec Go.Proofs.Tryz.prog 167 [iv x] (D.bool false) := by
  refine spec_of' Go.Proofs.Tryz.func167 rfl Go.Proofs.Tryz.ntmps167 rfl ?_
  refine f_seq (f_region (zm2 rfl rfl rfl (snil (f_seq (f_region (zm1 rfl rfl rfl (zm1 rfl rfl rfl ?_))))))); refine zq (p_neq rfl Zz Zz) rfl (zm2 rfl rfl rfl (snil (f_ret ?_)))
  refine ends_ret (res_eq (res1 rfl (res_tmp rfl (Sees.of rfl))) ?_)
  simp

theorem cmpI_spec (x y : Int) :
    Spec Go.Proofs.Tryz.prog 127 [iv x, iv y] (di (Sp.cmpI x y)) := by
  refine spec_of' Go.Proofs.Tryz.func127 rfl Go.Proofs.Tryz.ntmps127 rfl ?_
  refine f_seq (f_region (zm2 rfl rfl rfl (snil (f_seq (f_region (zm1 rfl rfl rfl ?_)))))); refine zc (c_call rfl wOrd_isf167 ⟨_, _, rfl, Zz, rfl, rfl⟩ (isnan_spec x)) rfl (zm2 rfl rfl rfl (snil (f_seq (f_region (zm1 rfl rfl rfl ?_))))); refine zc (c_call rfl wOrd_isf167 ⟨_, _, rfl, Zz, rfl, rfl⟩ (isnan_spec y)) rfl (zm2 rfl rfl rfl (snil (f_seq (f_seq (f_region (zm1 rfl rfl rfl (snil (f_cond rfl ?_ ?_))))))))
  · intro hc1; (try simp only [bs] at hc1)
    exact absurd hc1 (by decide)
  · intro hc1; (try simp only [bs] at hc1); refine f_skip (f_seq (f_seq (f_region (zm1 rfl rfl rfl (snil (f_cond rfl ?_ ?_))))))
    · intro hc2; (try simp only [bs] at hc2)
      exact absurd hc2 (by decide)
    · intro hc2; (try simp only [bs] at hc2); refine f_skip (f_seq (f_seq (f_region (zm1 rfl rfl rfl (zm1 rfl rfl rfl ?_))))); refine zq (p_lss rfl Zz Zz) rfl (snil (f_cond rfl ?_ ?_))
      · intro hc3; (try simp only [bs] at hc3); refine f_seq (f_region (zm2 rfl rfl rfl (snil (f_ret ?_))))
        refine ends_ret (res_eq (res1 rfl (res_tmp rfl (Sees.of rfl))) ?_)
        rw [Sp.cmpI, if_pos (by omega)]
      · intro hc3; (try simp only [bs] at hc3); refine f_skip (f_seq (f_seq (f_region (zm1 rfl rfl rfl (zm1 rfl rfl rfl ?_))))); refine zq (p_gtr rfl Zz Zz) rfl (snil (f_cond rfl ?_ ?_))
        · intro hc4; (try simp only [bs] at hc4); refine f_seq (f_region (zm2 rfl rfl rfl (snil (f_ret ?_))))
          refine ends_ret (res_eq (res1 rfl (res_tmp rfl (Sees.of rfl))) ?_)
          rw [Sp.cmpI, if_neg (by omega), if_pos (by omega)]
        · intro hc4; (try simp only [bs] at hc4); refine f_skip (f_seq (f_region (zm2 rfl rfl rfl (snil (f_ret ?_)))))
          refine ends_ret (res_eq (res1 rfl (res_tmp rfl (Sees.of rfl))) ?_)
          rw [Sp.cmpI, if_neg (by omega), if_neg (by omega)]

theorem or_spec (l : List Int) :
    Spec Go.Proofs.Tryz.prog 126 [.val (ints l)] (di (Sp.orD l)) := by
  refine spec_of' Go.Proofs.Tryz.func126 rfl Go.Proofs.Tryz.ntmps126 rfl ?_
  refine f_seq ?_
  refine f_wf (.tmp 0) rfl (fun hwf => ?_) (by simp)
  have hlen : l.length ≤ 140737488355328 := hwf.1
  clear hwf
  refine f_region (zm2 rfl rfl rfl (snil (f_seq (f_region (zm2 rfl rfl rfl (snil (f_seq (f_seq (f_region (zm1 rfl rfl rfl ?_)))))))))); refine zq (p_len rfl wOrd_isl22 Zz) rfl (zm1 rfl rfl rfl (snil (f_block ?_)))
  refine f_loop (α := Nat) (fun i => i ≤ l.length ∧ ∀ y ∈ l.take i, y = 0) (fun i => [(8, iv i), (3, iv 0), (6, .val (ints l)), (7, iv l.length)]) (fun i => l.length - i) 0 ?_ ?_ ?_
  · exact ⟨Nat.zero_le _, by simp⟩
  · exact le_ofL ⟨rfl, rfl, rfl, rfl, trivial⟩ rfl
  · rintro i ⟨hi, hp⟩
    refine f_seq (f_region ?_); refine zq (p_lss rfl Zz Zz) rfl (snil (f_seq (f_cond rfl ?_ ?_)))
    · intro hc1; (try simp only [bs] at hc1); refine f_skip (f_seq (f_block (f_seq (f_region ?_)))); refine zq ((by first | exact p_indexN rfl wOrd_isl22 wOrd_siz3 Zz Zz (by omega) | exact p_index rfl wOrd_isl22 wOrd_siz3 Zz Zz (by omega) (by omega))) rfl ?_; refine zq (p_load rfl wOrd_agg3 Zz rfl) rfl (zm2 rfl rfl rfl (snil (f_seq (f_region (zm1 rfl rfl rfl (zm1 rfl rfl rfl ?_)))))); refine zq (p_neq rfl Zz Zz) rfl (snil (f_cond rfl ?_ ?_))
      · intro hc2; (try simp only [bs] at hc2); refine f_seq (f_region (zm1 rfl rfl rfl (zm2 rfl rfl rfl (snil (f_ret ?_)))))
        refine ends_ret (res_eq (res1 rfl (res_tmp rfl (Sees.of rfl))) ?_)
        rw [Sp.orD_at (by omega) hp (by simpa using hc2)]
      · intro hc2; (try simp only [bs] at hc2); refine f_skip (f_nil ?_); show AWs _ _ _ _ _; refine f_region ?_; refine zq (p_add rfl Zz Zz (by omega)) rfl (zm1 rfl rfl rfl (snil ?_))
        refine f_back ⟨i + 1, ?_, ?_, le_ofL ⟨rfl, rfl, rfl, rfl, trivial⟩ rfl⟩
        · exact ⟨by omega, Sp.step_all (by omega) hp (by simpa using hc2)⟩
        · omega
    · intro hc1; (try simp only [bs] at hc1); refine f_exit ?_; show AWs _ _ _ _ _; refine f_seq (f_region (zm1 rfl rfl rfl (zm2 rfl rfl rfl (snil (f_ret ?_)))))
      refine ends_ret (res_eq (res1 rfl (res_tmp rfl (Sees.of rfl))) ?_)
      rw [List.take_of_length_le (by omega)] at hp
      rw [Sp.orD_none hp]

theorem order_spec (a b : Int) (ha : -9223372036854775808 < a ∧ a ≤ 9223372036854775807) (hb : -9223372036854775808 < b ∧ b ≤ 9223372036854775807) :
    Spec Go.Proofs.Tryz.prog 92 [iv a, iv b] (di (Sp.ord a b)) := by
  refine spec_of' Go.Proofs.Tryz.func92 rfl Go.Proofs.Tryz.ntmps92 rfl ?_
  refine f_seq (f_region (zm2 rfl rfl rfl (snil (f_seq (f_region (zm1 rfl rfl rfl ?_)))))); refine zc (c_call rfl wOrd_isf43 ⟨_, _, rfl, Zz, rfl, rfl⟩ (var_spec a ha)) rfl (zm1 rfl rfl rfl ?_); refine zc (c_call rfl wOrd_isf43 ⟨_, _, rfl, Zz, rfl, rfl⟩ (var_spec b hb)) rfl ?_; refine zc (c_call rfl wOrd_isf127 ⟨_, _, rfl, Zz, rfl, ⟨_, _, rfl, Zz, rfl, rfl⟩⟩ (cmpI_spec (max a (-a)) (max b (-b)))) rfl (zm1 rfl rfl rfl (zm1 rfl rfl rfl ?_)); refine zc (c_call rfl wOrd_isf127 ⟨_, _, rfl, Zz, rfl, ⟨_, _, rfl, Zz, rfl, rfl⟩⟩ (cmpI_spec b a)) rfl ?_; refine zc (c_buildSlice (f := di) (za := 0) (xs := [.tmp 9, .tmp 12]) rfl rfl wOrd_isl22 wOrd_siz3 wOrd_zer3 rfl rfl ⟨_, _, rfl, Zz, rfl, rfl, ⟨_, _, rfl, Zz, rfl, rfl, rfl⟩⟩) rfl ?_; refine zc (c_call rfl wOrd_isf126 ⟨_, _, rfl, Zz, rfl, rfl⟩ (or_spec [Sp.cmpI (max a (-a)) (max b (-b)), Sp.cmpI b a])) rfl (zm2 rfl rfl rfl (snil (f_ret ?_)))
  refine ends_ret (res_eq (res1 rfl (res_tmp rfl (Sees.of rfl))) ?_)
  rw [Sp.orD_two]
  rfl

theorem cloneI_spec (a : List Int) (hla : a.length ≤ 1000000) :
    SpecN Go.Proofs.Tryz.prog 77 [.val (ints a)] 3 1 8 di a := by
  refine specN_of' Go.Proofs.Tryz.func77 rfl Go.Proofs.Tryz.ntmps77 rfl ?_
  refine f_seq ?_
  refine f_wf (.tmp 0) rfl (fun hwf => ?_) (by simp)
  have hlen : a.length ≤ 140737488355328 := hwf.1
  clear hwf
  refine f_sl 0 rfl rfl (fun b hb => ?_) (by simp)
  refine f_region (zm5 rfl rfl rfl (snil (f_seq (f_seq (f_region (zm1 rfl rfl rfl ?_)))))); refine zq (p_eqlNil rfl wOrd_isl22 rfl rfl) rfl (snil (f_cond rfl ?_ ?_))
  · intro hc1; (try simp only [bs] at hc1); refine f_seq (f_region (zm5 rfl rfl rfl (snil (f_ret ?_))))
    refine endsN_ret (resN_eq (resN_emp rfl rfl rfl rfl) ?_)
    exact (hb hc1).symm
  · intro hc1; (try simp only [bs] at hc1); refine f_skip (f_seq (f_region ?_)); refine scons (r_buildRow (f := di) (za := 0) (xs := []) (by_ := 8) (ob := 10005) rfl rfl wOrd_isl22 wOrd_siz3 wOrd_zer3 rfl rfl (by decide) rfl rfl rfl rfl rfl rfl) (zm1 rfl rfl rfl ?_); refine scons (r_appendR (ob := 10005) rfl wOrd_isl22 wOrd_siz3 wOrd_byt3 wOrd_zer3 rfl rfl Zz rfl (Sees.sl rfl) (by simp only [List.length_cons, List.length_nil, List.length_append]; omega) (by simp only [List.length_cons, List.length_nil, List.length_append]; omega) rfl rfl rfl rfl rfl) ?_; refine zm4 rfl rfl rfl (snil (f_ret ?_))
    refine endsN_ret (resN_eq (resN_row rfl rfl rfl rfl) ?_)
    rfl

theorem sorted_spec (l : List Int) (hll : l.length ≤ 1000000) (hl : ∀ x ∈ l, -9223372036854775808 < x ∧ x ≤ 9223372036854775807) :
    Spec Go.Proofs.Tryz.prog 51 [.val (ints l)] (ints (Sp.litSort l)) := by
  refine spec_of' Go.Proofs.Tryz.func51 rfl Go.Proofs.Tryz.ntmps51 rfl ?_
  refine f_seq (f_region (zm5 rfl rfl rfl (snil (f_seq (f_region (zm1 rfl rfl rfl ?_)))))); refine scons (r_callS (q := false) (ob := 30000) 0 rfl wOrd_isf77 (cloneI_spec l hll) (sa_cons (sh_of Zz rfl) (sa_nil)) (.inl rfl) rfl rfl rfl rfl rfl) (zm4 rfl rfl rfl (snil (f_seq (f_region (zm3 rfl rfl rfl ?_))))); refine scons (r_callB rfl wOrd_isf91 (sortFc_spec Go.Proofs.Tryz.laySFI di 0 (fun x => -9223372036854775808 < x ∧ x ≤ 9223372036854775807) Sp.ord (fun _ => rfl) ord_swo ord_tot (F := 92) (by unfold IsFn; kernel_rfl) (fun x y hx hy => order_spec x y hx hy) 0 3 8 l (Sp.litSort l) rfl hl) ⟨_, _, rfl, Zz, ⟨_, _, rfl, Zz, rfl⟩⟩ ⟨rfl, trivial⟩ rfl rfl rfl rfl rfl rfl) ?_; refine snil (f_seq (f_region (zm3 rfl rfl rfl (zm4 rfl rfl rfl (snil (f_ret ?_))))))
  refine ends_ret (res_eq (res1 rfl (res_row rfl rfl rfl)) ?_)
  rfl

end Go.Um
