/- Walks of Go functions of this seat, each by its contract. No condition beyond what each theorem says. -/
import Derived.Test.YtfjafkocejoigaaBB
import Derived.Test.YtfjafkocejoigaaWCnf
import Derived.Test.YtfjafkocejoigaaProg
import Derived.KernelRfl
import Derived.Test.YtfjafkocejoigaaQ
set_option maxRecDepth 4000
namespace Go.Um
open Go Go.RowKit

theorem wSat_agg4 : IsAgg Go.Proofs.Try.prog 4 false := by unfold IsAgg; kernel_rfl
theorem wSat_agg56 : IsAgg Go.Proofs.Try.prog 56 false := by unfold IsAgg; kernel_rfl
theorem wSat_boo4 : IsBool Go.Proofs.Try.prog 4 := by unfold IsBool; kernel_rfl
theorem wSat_byt4 : Bytes Go.Proofs.Try.prog 4 1 := by unfold Bytes; kernel_rfl
theorem wSat_isf43 : IsFn Go.Proofs.Try.prog 43 := by unfold IsFn; kernel_rfl
theorem wSat_isf44 : IsFn Go.Proofs.Try.prog 44 := by unfold IsFn; kernel_rfl
theorem wSat_isf45 : IsFn Go.Proofs.Try.prog 45 := by unfold IsFn; kernel_rfl
theorem wSat_isf55 : IsFn Go.Proofs.Try.prog 55 := by unfold IsFn; kernel_rfl
theorem wSat_isf56 : IsFn Go.Proofs.Try.prog 56 := by unfold IsFn; kernel_rfl
theorem wSat_isf57 : IsFn Go.Proofs.Try.prog 57 := by unfold IsFn; kernel_rfl
theorem wSat_isf62 : IsFn Go.Proofs.Try.prog 62 := by unfold IsFn; kernel_rfl
theorem wSat_isl56 : IsSlice Go.Proofs.Try.prog 56 4 := by unfold IsSlice; kernel_rfl
theorem wSat_siz4 : Size Go.Proofs.Try.prog 4 1 := by unfold Size; kernel_rfl
theorem wSat_zer4 : Zero Go.Proofs.Try.prog 4 (.bool false) := by unfold Zero; kernel_rfl

theorem assignment_spec (n : Nat) (w : Int) (hn : n ≤ 60) :
    SpecN Go.Proofs.Try.prog 42 [iv n, iv w] 4 1 1 D.bool (Sp.bits n w) := by
  refine specN_of' Go.Proofs.Try.func42 rfl Go.Proofs.Try.ntmps42 rfl ?_
  refine f_seq (f_region (zm5 rfl rfl rfl (snil (f_seq (f_region (zm1 rfl rfl rfl ?_)))))); refine scons (r_make (f := D.bool) (z := false) (ob := 10008) rfl wSat_isl56 wSat_siz4 wSat_byt4 wSat_zer4 rfl rfl rfl (fun _ _ => rfl) Zz (by omega) (by omega) rfl rfl rfl rfl rfl) (zm4 rfl rfl rfl (snil (f_seq (f_seq (f_region (zm3 rfl rfl rfl ?_)))))); refine zq (p_lenR rfl wSat_isl56 Zz rfl) rfl (zm1 rfl rfl rfl (snil (f_block ?_)))
  refine f_loop (α := Nat) (fun i => i ≤ n) (fun i => [(11, iv i), (10, iv n), (5, .row 10008 0), (10008, .arr 0 4 1 1 D.bool false ((Sp.bits n w).take i ++ List.replicate (n - i) false)), (0, iv n), (1, iv w), (4, .emp)]) (fun i => n - i) 0 ?_ ?_ ?_
  · exact Nat.zero_le _
  · exact le_ofL ⟨rfl, (by show AV.val (.int .i64 ((List.replicate n false).length : Nat)) = _; rw [List.length_replicate]), rfl, rfl, rfl, rfl, rfl, trivial⟩ rfl
  · rintro i hi
    refine f_seq (f_region ?_); refine zq (p_lss rfl Zz Zz) rfl (snil (f_seq (f_cond rfl ?_ ?_)))
    · intro hc1; (try simp only [bs] at hc1); refine f_skip (f_seq (f_block (f_seq (f_region (zm1 rfl rfl rfl (zm2 rfl rfl rfl (snil (f_region (zm3 rfl rfl rfl (zm1 rfl rfl rfl (zm1 rfl rfl rfl (zm1 rfl rfl rfl ?_)))))))))))); refine zq (p_sub rfl Zz Zz (by omega)) rfl (zm1 rfl rfl rfl ?_); refine zq (p_sub rfl Zz Zz (by omega)) rfl ?_; refine zq (p_shr rfl Zz Zz (by omega) (by omega)) rfl ?_; refine zq (p_and1 rfl Zz Zz) rfl ?_; refine zq (p_eql rfl Zz Zz) rfl ?_; refine zq ((by first | exact p_indexR rfl wSat_isl56 wSat_siz4 Zz rfl Zz (by simp only [List.length_append, List.length_take, List.length_replicate, Sp.bits_length]; omega) | exact p_indexRZ rfl wSat_isl56 wSat_siz4 Zz rfl Zz (by omega) (by simp only [List.length_append, List.length_take, List.length_replicate, Sp.bits_length]; omega))) rfl ?_; refine scons (r_storeE rfl wSat_siz4 rfl rfl rfl Zz rfl (by simp only [List.length_append, List.length_take, List.length_replicate, Sp.bits_length]; omega) Zz rfl) ?_; refine snil (f_nil ?_); show AWs _ _ _ _ _; refine f_region ?_; refine zq (p_add rfl Zz Zz (by omega)) rfl (zm1 rfl rfl rfl (snil ?_))
      refine f_back ⟨i + 1, ?_, ?_, le_ofL ⟨rfl, rfl, rfl, (by have e : ((n : Int) - 1 - (i : Int)).toNat = n - 1 - i := (by omega); rw [← Sp.bits_fill (by omega), ← e]; rfl), rfl, rfl, rfl, trivial⟩ rfl⟩
      · omega
      · omega
    · intro hc1; (try simp only [bs] at hc1); refine f_exit ?_; show AWs _ _ _ _ _; refine f_seq (f_region (zm3 rfl rfl rfl (zm4 rfl rfl rfl (snil (f_ret ?_)))))
      refine endsN_ret (resN_eq (resN_row rfl rfl rfl rfl) ?_)
      have e : n - i = 0 := by omega
      rw [List.take_of_length_le (by rw [Sp.bits_length]; omega), e, List.replicate_zero, List.append_nil]

theorem true_spec (x : Int) (a : List Bool) (hx : x ≠ 0 ∧ -(a.length : Int) ≤ x ∧ x ≤ a.length) :
    Spec Go.Proofs.Try.prog 57 [iv x, .val (bools a)] (D.bool (Sp.lit a x)) := by
  refine spec_of' Go.Proofs.Try.func57 rfl Go.Proofs.Try.ntmps57 rfl ?_
  refine f_seq ?_
  refine f_wf (.tmp 1) rfl (fun hwf => ?_) (by simp)
  have hlen : a.length ≤ 140737488355328 := hwf.1
  clear hwf
  refine f_region (zm2 rfl rfl rfl (snil (f_seq (f_region (zm1 rfl rfl rfl (zm1 rfl rfl rfl ?_)))))); refine zc (c_call rfl wSat_isf62 ⟨_, _, rfl, Zz, rfl, rfl⟩ (var_spec x (by omega))) rfl ?_; refine zq (p_sub rfl Zz Zz (by omega)) rfl ?_; refine zq ((by first | exact p_indexN rfl wSat_isl56 wSat_siz4 Zz Zz (by omega) | exact p_index rfl wSat_isl56 wSat_siz4 Zz Zz (by omega) (by omega))) rfl ?_; refine zq (p_load rfl wSat_agg4 Zz rfl) rfl (zm1 rfl rfl rfl ?_); refine zq (p_gtr rfl Zz Zz) rfl ?_; refine zq (p_eqlB rfl wSat_boo4 Zz Zz) rfl (zm2 rfl rfl rfl (snil (f_ret ?_)))
  refine ends_ret (res_eq (res1 rfl (res_tmp rfl (Sees.of rfl))) ?_)
  unfold Sp.lit
  by_cases h : 0 < x
  · rw [if_pos h, Int.max_eq_left (by omega)]; simp [h]
  · rw [if_neg h, Int.max_eq_right (by omega)]; simp [h]

theorem sat1_spec (x : Int) (a : List Bool) (hx : x ≠ 0 ∧ -(a.length : Int) ≤ x ∧ x ≤ a.length) :
    Spec Go.Proofs.Try.prog 56 [iv x, .ptr (bools a)] (D.bool (Sp.lit a x)) := by
  refine spec_of' Go.Proofs.Try.func56 rfl Go.Proofs.Try.ntmps56 rfl ?_
  refine f_seq (f_region (zm2 rfl rfl rfl (snil (f_seq (f_region (zm1 rfl rfl rfl ?_)))))); refine zq (p_load rfl wSat_agg56 Zz rfl) rfl ?_; refine zc (c_call rfl wSat_isf57 ⟨_, _, rfl, Zz, rfl, ⟨_, _, rfl, Zz, rfl, rfl⟩⟩ (true_spec x a hx)) rfl (zm2 rfl rfl rfl (snil (f_ret ?_)))
  refine ends_ret (res_eq (res1 rfl (res_tmp rfl (Sees.of rfl))) ?_)
  rfl

theorem csat_spec (l : List Int) (a : List Bool) (hG : Sp.Good a.length l) :
    Spec Go.Proofs.Try.prog 45 [.val (ints l), .val (bools a)] (D.bool (Sp.sat a l)) := by
  refine spec_of' Go.Proofs.Try.func45 rfl Go.Proofs.Try.ntmps45 rfl ?_
  refine f_seq (f_region ?_); refine scons (r_box (ob := 10003) rfl Zz rfl rfl rfl rfl rfl rfl) (zm2 rfl rfl rfl (snil (f_seq (f_region (zm1 rfl rfl rfl ?_))))); refine zq (p_makeFunc (l := [.tmp 3]) rfl) rfl ?_; refine zc (c_callS (q := true) rfl wSat_isf55 (containsI_spec l (Sp.lit a) (fun x => x ≠ 0 ∧ -(a.length : Int) ≤ x ∧ x ≤ a.length) hG) (sa_cons (sh_of Zz rfl) (sa_cons (sh_clo Zz wSat_isf56 (sl_cons (sh_ref1 Sees.same rfl rfl (sh_of Sees.same rfl)) (sl_nil)) (fun _ => rfl) (fun _ => rfl) (fun y => sat1_spec y.1 a y.2)) (sa_nil))) rfl) rfl (zm2 rfl rfl rfl (snil (f_ret ?_)))
  refine ends_ret (res_eq (res1 rfl (res_tmp rfl (Sees.of rfl))) ?_)
  rfl

theorem call1_spec (l : List Int) (a : List Bool) (hG : Sp.Good a.length l) :
    Spec Go.Proofs.Try.prog 44 [.val (ints l), .ptr (bools a)] (D.bool (!Sp.sat a l)) := by
  refine spec_of' Go.Proofs.Try.func44 rfl Go.Proofs.Try.ntmps44 rfl ?_
  refine f_seq (f_region (zm2 rfl rfl rfl (snil (f_seq (f_region (zm1 rfl rfl rfl ?_)))))); refine zq (p_load rfl wSat_agg56 Zz rfl) rfl ?_; refine zc (c_call rfl wSat_isf45 ⟨_, _, rfl, Zz, rfl, ⟨_, _, rfl, Zz, rfl, rfl⟩⟩ (csat_spec l a hG)) rfl ?_; refine zq (p_not rfl Zz) rfl (zm2 rfl rfl rfl (snil (f_ret ?_)))
  refine ends_ret (res_eq (res1 rfl (res_tmp rfl (Sees.of rfl))) ?_)
  rfl

theorem call_spec (ls : List (List Int)) (a : List Bool) (hG : ∀ l ∈ ls, Sp.Good a.length l) :
    Spec Go.Proofs.Try.prog 27 [.val (intss ls), .val (bools a)] (D.bool (Sp.all a ls)) := by
  refine spec_of' Go.Proofs.Try.func27 rfl Go.Proofs.Try.ntmps27 rfl ?_
  refine f_seq (f_region ?_); refine scons (r_box (ob := 10003) rfl Zz rfl rfl rfl rfl rfl rfl) (zm2 rfl rfl rfl (snil (f_seq (f_region (zm1 rfl rfl rfl ?_))))); refine zq (p_makeFunc (l := [.tmp 3]) rfl) rfl ?_; refine zc (c_callS (q := true) rfl wSat_isf43 (containsII_spec ls (fun l => !Sp.sat a l) (fun l => Sp.Good a.length l) hG) (sa_cons (sh_of Zz rfl) (sa_cons (sh_clo Zz wSat_isf44 (sl_cons (sh_ref1 Sees.same rfl rfl (sh_of Sees.same rfl)) (sl_nil)) (fun _ => rfl) (fun _ => rfl) (fun y => call1_spec y.1 a y.2)) (sa_nil))) rfl) rfl ?_; refine zq (p_not rfl Zz) rfl (zm2 rfl rfl rfl (snil (f_ret ?_)))
  refine ends_ret (res_eq (res1 rfl (res_tmp rfl (Sees.of rfl))) ?_)
  rw [Sp.all, List.all_eq_not_any_not]

end Go.Um
