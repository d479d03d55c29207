/- Walks of Go functions of this seat, each by its contract. No condition beyond what each theorem says. -/
import Derived.Test.YtpjenbbalengoaaWBet3
import Derived.Test.YtpjenbbalengoaaBt4
import Derived.Test.YtpjenbbalengoaaBD
import Derived.Test.YtpjenbbalengoaaBC
import Derived.Test.YtpjenbbalengoaaWSat
import Derived.Test.YtpjenbbalengoaaProg
import Derived.KernelRfl
set_option maxRecDepth 4000
namespace Go.Um
open Go Go.RowKit

theorem wBet4_agg26 : IsAgg Go.Proofs.Try.prog 26 true := by unfold IsAgg; kernel_rfl
theorem wBet4_agg3 : IsAgg Go.Proofs.Try.prog 3 false := by unfold IsAgg; kernel_rfl
theorem wBet4_agg33 : IsAgg Go.Proofs.Try.prog 33 false := by unfold IsAgg; kernel_rfl
theorem wBet4_agg37 : IsAgg Go.Proofs.Try.prog 37 false := by unfold IsAgg; kernel_rfl
theorem wBet4_agg39 : IsAgg Go.Proofs.Try.prog 39 true := by unfold IsAgg; kernel_rfl
theorem wBet4_agg4 : IsAgg Go.Proofs.Try.prog 4 false := by unfold IsAgg; kernel_rfl
theorem wBet4_byt3 : Bytes Go.Proofs.Try.prog 3 8 := by unfold Bytes; kernel_rfl
theorem wBet4_byt33 : Bytes Go.Proofs.Try.prog 33 24 := by unfold Bytes; kernel_rfl
theorem wBet4_byt4 : Bytes Go.Proofs.Try.prog 4 1 := by unfold Bytes; kernel_rfl
theorem wBet4_fld171_0 : IsField Go.Proofs.Try.prog 171 0 0 3 := by unfold IsField; kernel_rfl
theorem wBet4_fld171_1 : IsField Go.Proofs.Try.prog 171 1 1 3 := by unfold IsField; kernel_rfl
theorem wBet4_fld171_2 : IsField Go.Proofs.Try.prog 171 2 2 3 := by unfold IsField; kernel_rfl
theorem wBet4_fld26_0 : IsField Go.Proofs.Try.prog 26 0 0 3 := by unfold IsField; kernel_rfl
theorem wBet4_fld39_0 : IsField Go.Proofs.Try.prog 39 0 0 3 := by unfold IsField; kernel_rfl
theorem wBet4_fld39_1 : IsField Go.Proofs.Try.prog 39 1 1 37 := by unfold IsField; kernel_rfl
theorem wBet4_isf101 : IsFn Go.Proofs.Try.prog 101 := by unfold IsFn; kernel_rfl
theorem wBet4_isf114 : IsFn Go.Proofs.Try.prog 114 := by unfold IsFn; kernel_rfl
theorem wBet4_isf130 : IsFn Go.Proofs.Try.prog 130 := by unfold IsFn; kernel_rfl
theorem wBet4_isf29 : IsFn Go.Proofs.Try.prog 29 := by unfold IsFn; kernel_rfl
theorem wBet4_isf30 : IsFn Go.Proofs.Try.prog 30 := by unfold IsFn; kernel_rfl
theorem wBet4_isf43 : IsFn Go.Proofs.Try.prog 43 := by unfold IsFn; kernel_rfl
theorem wBet4_isf73 : IsFn Go.Proofs.Try.prog 73 := by unfold IsFn; kernel_rfl
theorem wBet4_isf78 : IsFn Go.Proofs.Try.prog 78 := by unfold IsFn; kernel_rfl
theorem wBet4_isf83 : IsFn Go.Proofs.Try.prog 83 := by unfold IsFn; kernel_rfl
theorem wBet4_isf84 : IsFn Go.Proofs.Try.prog 84 := by unfold IsFn; kernel_rfl
theorem wBet4_isl24 : IsSlice Go.Proofs.Try.prog 24 4 := by unfold IsSlice; kernel_rfl
theorem wBet4_isl33 : IsSlice Go.Proofs.Try.prog 33 3 := by unfold IsSlice; kernel_rfl
theorem wBet4_isl37 : IsSlice Go.Proofs.Try.prog 37 33 := by unfold IsSlice; kernel_rfl
theorem wBet4_isl63 : IsSlice Go.Proofs.Try.prog 63 171 := by unfold IsSlice; kernel_rfl
theorem wBet4_mix : (Go.Proofs.Try.prog).follows .mixedOrders = true := by kernel_rfl
theorem wBet4_plc26 : Places Go.Proofs.Try.prog 26 [(0, 1), (1, 1)] := by unfold Places; kernel_rfl
theorem wBet4_siz171 : Size Go.Proofs.Try.prog 171 3 := by unfold Size; kernel_rfl
theorem wBet4_siz26 : Size Go.Proofs.Try.prog 26 2 := by unfold Size; kernel_rfl
theorem wBet4_siz3 : Size Go.Proofs.Try.prog 3 1 := by unfold Size; kernel_rfl
theorem wBet4_siz33 : Size Go.Proofs.Try.prog 33 1 := by unfold Size; kernel_rfl
theorem wBet4_siz37 : Size Go.Proofs.Try.prog 37 1 := by unfold Size; kernel_rfl
theorem wBet4_siz39 : Size Go.Proofs.Try.prog 39 2 := by unfold Size; kernel_rfl
theorem wBet4_siz4 : Size Go.Proofs.Try.prog 4 1 := by unfold Size; kernel_rfl
def wBet4_z26 : D := .cons (.int .i64 0) (.cons (.int .i64 0) (.nil))
theorem wBet4_zch26 : ∀ (ok : Nat → Prop) (w : World), R Go.Proofs.Try.prog wBet4_z26 ok w (Value.cells (.agg #[(.int .i64 0), (.int .i64 0)])).toList := fun _ _ => z_int (z_int (z_nil))
theorem wBet4_zer26 : Zero Go.Proofs.Try.prog 26 (.agg #[(.int .i64 0), (.int .i64 0)]) := by unfold Zero; kernel_rfl
theorem wBet4_zer3 : Zero Go.Proofs.Try.prog 3 (.int .i64 0) := by unfold Zero; kernel_rfl
theorem wBet4_zer33 : Zero Go.Proofs.Try.prog 33 (.slice none 0 0) := by unfold Zero; kernel_rfl
theorem wBet4_zer4 : Zero Go.Proofs.Try.prog 4 (.bool false) := by unfold Zero; kernel_rfl

theorem ofB_spec (x : Int) (hx : -9223372036854775808 < x ∧ x ≤ 9223372036854775807) :
    Spec Go.Proofs.Try.prog 29 [iv x] (di (Sp.av x)) := by
  refine spec_of' Go.Proofs.Try.func29 rfl Go.Proofs.Try.ntmps29 rfl ?_
  refine f_seq ?_
  refine f_region ?_
  refine scons (CStep.step (PStep.c (p_assign (y := .val _) rfl (Sees.of rfl) rfl)) rfl rfl rfl rfl) ?_
  refine snil ?_
  refine f_seq ?_
  refine f_seq ?_
  refine f_region ?_
  refine scons (CStep.step (PStep.c (p_move (y := .val _) rfl (Sees.of rfl) rfl)) rfl rfl rfl rfl) ?_
  refine scons (CStep.step (PStep.c (p_lss rfl (Sees.of rfl) (Sees.of rfl))) rfl rfl rfl rfl) ?_
  refine snil ?_
  refine f_cond rfl ?_ ?_
  · intro hc1
    try simp only [bs] at hc1
    refine f_seq ?_
    refine f_region ?_
    refine scons (CStep.step (PStep.c (p_move (y := .val _) rfl (Sees.of rfl) rfl)) rfl rfl rfl rfl) ?_
    refine scons (CStep.step (PStep.c (p_neg rfl (Sees.of rfl) (by omega))) rfl rfl rfl rfl) ?_
    refine scons (CStep.step (PStep.c (p_assign (y := .val _) rfl (Sees.of rfl) rfl)) rfl rfl rfl rfl) ?_
    refine snil ?_
    refine f_ret ?_
    refine ends_ret (res_eq (res1 rfl (res_tmp rfl (Sees.of rfl))) ?_)
    rw [Sp.av, Int.max_eq_right (by omega)]
  · intro hc1
    try simp only [bs] at hc1
    refine f_skip ?_
    refine f_seq ?_
    refine f_region ?_
    refine scons (CStep.step (PStep.c (p_move (y := .val _) rfl (Sees.of rfl) rfl)) rfl rfl rfl rfl) ?_
    refine scons (CStep.step (PStep.c (p_assign (y := .val _) rfl (Sees.of rfl) rfl)) rfl rfl rfl rfl) ?_
    refine snil ?_
    refine f_ret ?_
    refine ends_ret (res_eq (res1 rfl (res_tmp rfl (Sees.of rfl))) ?_)
    rw [Sp.av, Int.max_eq_left (by omega)]

theorem aheadB_spec (x y : Int) (hx : -9223372036854775808 < x ∧ x ≤ 9223372036854775807) (hy : -9223372036854775808 < y ∧ y ≤ 9223372036854775807) :
    Spec Go.Proofs.Try.prog 114 [iv x, iv y] (D.bool (Sp.ltO x y)) := by
  refine spec_of' Go.Proofs.Try.func114 rfl Go.Proofs.Try.ntmps114 rfl ?_
  refine f_seq ?_
  refine f_region ?_
  refine scons (CStep.step (PStep.c (p_assign (y := .val _) rfl (Sees.of rfl) rfl)) rfl rfl rfl rfl) ?_
  refine snil ?_
  refine f_seq ?_
  refine f_region ?_
  refine scons (CStep.step (PStep.c (p_move (y := .val _) rfl (Sees.of rfl) rfl)) rfl rfl rfl rfl) ?_
  refine scons (CStep.step (c_call rfl wBet4_isf29 ⟨_, _, rfl, (Sees.of rfl), rfl, rfl⟩ (ofB_spec x hx)) rfl rfl rfl rfl) ?_
  refine scons (CStep.step (PStep.c (p_move (y := .val _) rfl (Sees.of rfl) rfl)) rfl rfl rfl rfl) ?_
  refine scons (CStep.step (c_call rfl wBet4_isf29 ⟨_, _, rfl, (Sees.of rfl), rfl, rfl⟩ (ofB_spec y hy)) rfl rfl rfl rfl) ?_
  refine scons (CStep.step (PStep.c (p_lss rfl (Sees.of rfl) (Sees.of rfl))) rfl rfl rfl rfl) ?_
  refine scons (CStep.step (PStep.c (p_move (y := .val _) rfl (Sees.of rfl) rfl)) rfl rfl rfl rfl) ?_
  refine scons (CStep.guard rfl rfl rfl (fun hg0 => PStep.c (p_move (y := .val _) rfl (Sees.of rfl) rfl)) rfl rfl rfl rfl rfl) ?_
  refine scons (CStep.guard rfl rfl rfl (fun hg0 => c_call rfl wBet4_isf29 ⟨_, _, rfl, (Sees.gv' rfl hg0), rfl, rfl⟩ (ofB_spec x hx)) rfl rfl rfl rfl rfl) ?_
  refine scons (CStep.guard rfl rfl rfl (fun hg0 => PStep.c (p_move (y := .val _) rfl (Sees.of rfl) rfl)) rfl rfl rfl rfl rfl) ?_
  refine scons (CStep.guard rfl rfl rfl (fun hg0 => c_call rfl wBet4_isf29 ⟨_, _, rfl, (Sees.gv' rfl hg0), rfl, rfl⟩ (ofB_spec y hy)) rfl rfl rfl rfl rfl) ?_
  refine scons (CStep.guard rfl rfl rfl (fun hg0 => PStep.c (p_eql rfl (Sees.gv' rfl hg0) (Sees.gv' rfl hg0))) rfl rfl rfl rfl rfl) ?_
  refine scons (CStep.guard rfl rfl rfl (fun hg0 => PStep.c (p_move (y := .val _) rfl (Sees.gv' rfl hg0) rfl)) rfl rfl rfl rfl rfl) ?_
  refine scons (CStep.guard2 rfl rfl rfl (fun hg1 hg0 => PStep.c (p_move (y := .val _) rfl (Sees.of rfl) rfl)) rfl rfl rfl rfl rfl) ?_
  refine scons (CStep.guard2 rfl rfl rfl (fun hg1 hg0 => PStep.c (p_move (y := .val _) rfl (Sees.of rfl) rfl)) rfl rfl rfl rfl rfl) ?_
  refine scons (CStep.guard2 rfl rfl rfl (fun hg1 hg0 => PStep.c (p_gtr rfl (Sees.gv' rfl (and_true_of hg1 hg0)) (Sees.gv' rfl (and_true_of hg1 hg0)))) rfl rfl rfl rfl rfl) ?_
  refine scons (CStep.guard rfl rfl rfl (fun hg0 => PStep.c (p_and rfl (Sees.gv' rfl hg0) (fun h => Sees.gv' rfl (and_true_of hg0 (beq_of_eq h))) (Sees.of rfl))) rfl rfl rfl rfl rfl) ?_
  refine scons (CStep.step (PStep.c (p_or rfl (Sees.of rfl) (Sees.of rfl) (fun h => Sees.gv' rfl (beq_of_eq h)))) rfl rfl rfl rfl) ?_
  refine scons (CStep.step (PStep.c (p_assign (y := .val _) rfl (Sees.of rfl) rfl)) rfl rfl rfl rfl) ?_
  refine snil ?_
  refine f_ret ?_
  refine ends_ret (res_eq (res1 rfl (res_tmp rfl (Sees.of rfl))) ?_)
  congr 1
  rw [Bool.eq_iff_iff, Sp.ltO_iff]
  simp

theorem sortedB_spec (l : List Int) (hll : l.length ≤ 1000000) (hl : ∀ x ∈ l, -9223372036854775808 < x ∧ x ≤ 9223372036854775807) :
    Spec Go.Proofs.Try.prog 73 [.val (ints l)] (ints (Sp.litSort l)) := by
  refine spec_of' Go.Proofs.Try.func73 rfl Go.Proofs.Try.ntmps73 rfl ?_
  refine f_seq ?_
  refine f_region ?_
  refine scons (CStep.step (PStep.c (p_assign (y := .emp) rfl (Sees.of rfl) rfl)) rfl rfl rfl rfl) ?_
  refine snil ?_
  refine f_seq ?_
  refine f_region ?_
  refine scons (CStep.step (PStep.c (p_assign (y := .emp) rfl (Sees.of rfl) rfl)) rfl rfl rfl rfl) ?_
  refine snil ?_
  refine f_seq ?_
  refine f_seq ?_
  refine f_region ?_
  refine scons (CStep.step (PStep.c (p_assign (y := .val _) rfl (Sees.of rfl) rfl)) rfl rfl rfl rfl) ?_
  refine snil ?_
  refine f_block ?_
  refine f_loop (α := Nat) (fun i => i ≤ l.length) (fun i => [(4, iv i), (3, .val (ints (Sp.litSort (l.take i)))), (0, .val (ints l)), (2, .emp)]) (fun i => l.length - i) 0 ?_ ?_ ?_
  · exact Nat.zero_le _
  · exact Le.trans (le_empty (k := 3) 1 di 0 rfl rfl) (le_ofL ⟨rfl, (by rw [List.take_zero, Sp.litSort, List.mergeSort_nil]; rfl), rfl, rfl, trivial⟩ rfl)
  · rintro i hi
    refine f_seq ?_
    refine f_seq ?_
    refine f_region ?_
    refine scons (CStep.step (PStep.c (p_move (y := .val _) rfl (Sees.of rfl) rfl)) rfl rfl rfl rfl) ?_
    refine scons (CStep.step (PStep.c (p_move (y := .val _) rfl (Sees.of rfl) rfl)) rfl rfl rfl rfl) ?_
    refine scons (CStep.step (PStep.c (p_len rfl wBet4_isl33 (Sees.of rfl))) rfl rfl rfl rfl) ?_
    refine scons (CStep.step (PStep.c (p_lss rfl (Sees.of rfl) (Sees.of rfl))) rfl rfl rfl rfl) ?_
    refine snil ?_
    refine f_cond rfl ?_ ?_
    · intro hc1
      try simp only [bs] at hc1
      refine f_skip ?_
      refine f_seq ?_
      refine f_block ?_
      refine f_seq ?_
      refine f_region ?_
      refine scons (CStep.step (PStep.c (p_assign (y := .val _) rfl (Sees.of rfl) rfl)) rfl rfl rfl rfl) ?_
      refine snil ?_
      refine f_seq ?_
      refine f_block ?_
      refine f_loop (α := Nat) (fun k => k ≤ (Sp.litSort (l.take i)).length ∧ ∀ y ∈ (Sp.litSort (l.take i)).take k, Sp.ltO (l.getD i 0) y = false) (fun k => [(5, iv k), (4, iv i), (3, .val (ints (Sp.litSort (l.take i)))), (0, .val (ints l)), (2, .emp)]) (fun k => (Sp.litSort (l.take i)).length - k) 0 ?_ ?_ ?_
      · exact ⟨Nat.zero_le _, by simp⟩
      · exact le_ofL ⟨rfl, rfl, rfl, rfl, rfl, trivial⟩ rfl
      · rintro k ⟨hk, hp⟩
        have hlt := Sp.litSort_len (l.take i)
        have htl : (l.take i).length = i := by simp; omega
        refine f_seq ?_
        refine f_seq ?_
        refine f_draw wBet4_mix (by kernel_rfl) ?_
        refine dcons (CStep.step (PStep.c (p_move (y := .val _) rfl (Sees.of rfl) rfl)) rfl rfl rfl rfl) ?_
        refine dcons (CStep.step (PStep.c (p_move (y := .val _) rfl (Sees.of rfl) rfl)) rfl rfl rfl rfl) ?_
        refine dcons (CStep.step (PStep.c (p_len rfl wBet4_isl33 (Sees.of rfl))) rfl rfl rfl rfl) ?_
        refine dcons (CStep.step (PStep.c (p_lss rfl (Sees.of rfl) (Sees.of rfl))) rfl rfl rfl rfl) ?_
        refine dcons (CStep.step (PStep.c (p_move (y := .val _) rfl (Sees.of rfl) rfl)) rfl rfl rfl rfl) ?_
        refine dcons (CStep.guard rfl rfl rfl (fun hg0 => PStep.c (p_move (y := .val _) rfl (Sees.of rfl) rfl)) rfl rfl rfl rfl rfl) ?_
        refine dcons (CStep.guard rfl rfl rfl (fun hg0 => PStep.c (p_move (y := .val _) rfl (Sees.of rfl) rfl)) rfl rfl rfl rfl rfl) ?_
        refine dcons (CStep.guard rfl rfl rfl (fun hg0 => by have hp0 := hg0; (try simp only [bs] at hp0); exact PStep.c ((by first | exact p_indexN rfl wBet4_isl33 wBet4_siz3 (Sees.gv' rfl hg0) (Sees.gv' rfl hg0) (by omega) | exact p_index rfl wBet4_isl33 wBet4_siz3 (Sees.gv' rfl hg0) (Sees.gv' rfl hg0) (by omega) (by omega)))) rfl rfl rfl rfl rfl) ?_
        refine dcons (CStep.guard rfl rfl rfl (fun hg0 => PStep.c (p_load rfl wBet4_agg3 (Sees.gv' rfl hg0) rfl)) rfl rfl rfl rfl rfl) ?_
        refine dcons (CStep.guard rfl rfl rfl (fun hg0 => PStep.c (p_move (y := .val _) rfl (Sees.of rfl) rfl)) rfl rfl rfl rfl rfl) ?_
        refine dcons (CStep.guard rfl rfl rfl (fun hg0 => PStep.c (p_move (y := .val _) rfl (Sees.of rfl) rfl)) rfl rfl rfl rfl rfl) ?_
        refine dcons (CStep.guard rfl rfl rfl (fun hg0 => by have hp0 := hg0; (try simp only [bs] at hp0); exact PStep.c ((by first | exact p_indexN rfl wBet4_isl33 wBet4_siz3 (Sees.gv' rfl hg0) (Sees.gv' rfl hg0) (by omega) | exact p_index rfl wBet4_isl33 wBet4_siz3 (Sees.gv' rfl hg0) (Sees.gv' rfl hg0) (by omega) (by omega)))) rfl rfl rfl rfl rfl) ?_
        refine dcons (CStep.guard rfl rfl rfl (fun hg0 => PStep.c (p_load rfl wBet4_agg3 (Sees.gv' rfl hg0) rfl)) rfl rfl rfl rfl rfl) ?_
        refine dcons (CStep.guard rfl rfl rfl (fun hg0 => by have hp0 := hg0; (try simp only [bs] at hp0); exact c_call rfl wBet4_isf114 ⟨_, _, rfl, (Sees.gv' rfl hg0), rfl, ⟨_, _, rfl, (Sees.gv' rfl hg0), rfl, rfl⟩⟩ (aheadB_spec _ _ (hl _ (Sp.getD_mem l i 0 (by omega))) (hl _ (List.mem_of_mem_take (Sp.litSort_mem.1 (Sp.getD_mem (Sp.litSort (l.take i)) k 0 (by omega))))))) rfl rfl rfl rfl rfl) ?_
        refine dcons (CStep.guard rfl rfl rfl (fun hg0 => PStep.c (p_not rfl (Sees.gv' rfl hg0))) rfl rfl rfl rfl rfl) ?_
        refine dcons (CStep.step (PStep.c (p_and rfl (Sees.of rfl) (fun h => Sees.gv' rfl (beq_of_eq h)) (Sees.of rfl))) rfl rfl rfl rfl) ?_
        refine dnil (by kernel_rfl) ?_
        refine f_cond rfl ?_ ?_
        · intro hc2
          try simp only [bs] at hc2
          refine f_skip ?_
          refine f_block ?_
          refine f_region ?_
          refine scons (CStep.step (PStep.c (p_move (y := .val _) rfl (Sees.of rfl) rfl)) rfl rfl rfl rfl) ?_
          refine scons (CStep.step (PStep.c (p_add rfl (Sees.of rfl) (Sees.of rfl) (by omega))) rfl rfl rfl rfl) ?_
          refine scons (CStep.step (PStep.c (p_assign (y := .val _) rfl (Sees.of rfl) rfl)) rfl rfl rfl rfl) ?_
          refine snil ?_
          refine f_nil ?_
          show AWs _ _ _ _ _
          refine f_back ⟨k + 1, ?_, ?_, le_ofL ⟨rfl, rfl, rfl, rfl, rfl, trivial⟩ rfl⟩
          · exact ⟨by omega, Sp.step_all (by omega) hp hc2.2⟩
          · omega
        · intro hc2
          try simp only [bs] at hc2
          refine f_exit ?_
          show AWs _ _ _ _ _
          have hlt := Sp.litSort_len (l.take i)
          have htl : (l.take i).length = i := by simp; omega
          refine f_draw wBet4_mix (by kernel_rfl) ?_
          refine dcons (r_buildRow (f := di) (za := 0) (xs := []) (by_ := 8) (ob := 10030) rfl rfl wBet4_isl33 wBet4_siz3 wBet4_zer3 rfl rfl (by decide) rfl rfl rfl rfl rfl rfl) ?_
          refine dcons (CStep.step (PStep.c (p_move (y := .val _) rfl (Sees.of rfl) rfl)) rfl rfl rfl rfl) ?_
          refine dcons (CStep.step (PStep.c (p_move (y := .val _) rfl (Sees.of rfl) rfl)) rfl rfl rfl rfl) ?_
          refine dcons (CStep.step (PStep.c (p_slice  rfl wBet4_isl33 wBet4_siz3 (Sees.of rfl) rfl (Sees.of rfl) (by omega) (by omega))) rfl rfl rfl rfl) ?_
          refine dcons (r_appendR (ob := 10034) rfl wBet4_isl33 wBet4_siz3 wBet4_byt3 wBet4_zer3 rfl rfl (Sees.of rfl) rfl (Sees.of rfl) (by simp only [List.length_append, List.length_take, List.length_drop, List.length_cons, List.length_nil]; omega) (by simp only [List.length_append, List.length_take, List.length_drop, List.length_cons, List.length_nil]; omega) rfl rfl rfl rfl rfl) ?_
          refine dcons (CStep.step (PStep.c (p_move (y := .val _) rfl (Sees.of rfl) rfl)) rfl rfl rfl rfl) ?_
          refine dcons (CStep.step (PStep.c (p_move (y := .val _) rfl (Sees.of rfl) rfl)) rfl rfl rfl rfl) ?_
          refine dcons (CStep.step (PStep.c ((by first | exact p_indexN rfl wBet4_isl33 wBet4_siz3 (Sees.of rfl) (Sees.of rfl) (by omega) | exact p_index rfl wBet4_isl33 wBet4_siz3 (Sees.of rfl) (Sees.of rfl) (by omega) (by omega)))) rfl rfl rfl rfl) ?_
          refine dcons (CStep.step (PStep.c (p_load rfl wBet4_agg3 (Sees.of rfl) rfl)) rfl rfl rfl rfl) ?_
          refine dcons (CStep.step (c_buildSlice (f := di) (za := 0) (xs := [.tmp 38]) rfl rfl wBet4_isl33 wBet4_siz3 wBet4_zer3 rfl rfl ⟨_, _, rfl, (Sees.of rfl), rfl, rfl, rfl⟩) rfl rfl rfl rfl) ?_
          refine dcons (r_appendR (ob := 10040) rfl wBet4_isl33 wBet4_siz3 wBet4_byt3 wBet4_zer3 rfl rfl (Sees.of rfl) rfl (Sees.of rfl) (by simp only [List.length_append, List.length_take, List.length_drop, List.length_cons, List.length_nil]; omega) (by simp only [List.length_append, List.length_take, List.length_drop, List.length_cons, List.length_nil]; omega) rfl rfl rfl rfl rfl) ?_
          refine dcons (CStep.step (PStep.c (p_move (y := .val _) rfl (Sees.of rfl) rfl)) rfl rfl rfl rfl) ?_
          refine dcons (CStep.step (PStep.c (p_move (y := .val _) rfl (Sees.of rfl) rfl)) rfl rfl rfl rfl) ?_
          refine dcons (CStep.step (PStep.c (p_slice  rfl wBet4_isl33 wBet4_siz3 (Sees.of rfl) (Sees.of rfl) rfl (by omega) (by omega))) rfl rfl rfl rfl) ?_
          refine dcons (r_appendR (ob := 10044) rfl wBet4_isl33 wBet4_siz3 wBet4_byt3 wBet4_zer3 rfl rfl (Sees.of rfl) rfl (Sees.of rfl) (by simp only [List.length_append, List.length_take, List.length_drop, List.length_cons, List.length_nil]; omega) (by simp only [List.length_append, List.length_take, List.length_drop, List.length_cons, List.length_nil]; omega) rfl rfl rfl rfl rfl) ?_
          refine dcons (CStep.step (PStep.c (p_assign (y := .row _ _) rfl (Sees.of rfl) rfl)) rfl rfl rfl rfl) ?_
          refine dnil (by kernel_rfl) ?_
          refine f_nil ?_
          show AWs _ _ _ _ _
          refine f_le (GLe.le (g_freeze (k := 3) (o1 := 10044) rfl rfl rfl rfl)) ?_ (by simp)
          refine f_region ?_
          refine scons (CStep.step (PStep.c (p_move (y := .val _) rfl (Sees.of rfl) rfl)) rfl rfl rfl rfl) ?_
          refine scons (CStep.step (PStep.c (p_add rfl (Sees.of rfl) (Sees.of rfl) (by omega))) rfl rfl rfl rfl) ?_
          refine scons (CStep.step (PStep.c (p_assign (y := .val _) rfl (Sees.of rfl) rfl)) rfl rfl rfl rfl) ?_
          refine snil ?_
          have hput := Sp.litSort_put (m := l.take i) (x := l.getD i 0) (k := k) (by omega) hp (fun h => hc2.resolve_left (by omega))
          refine f_back ⟨i + 1, ?_, ?_, le_ofL ⟨rfl, (by rw [Sp.take_getD l i 0 (by omega), ← hput, ← Sp.put_form]; rfl), rfl, rfl, trivial⟩ rfl⟩
          · omega
          · omega
    · intro hc1
      try simp only [bs] at hc1
      refine f_exit ?_
      show AWs _ _ _ _ _
      refine f_seq ?_
      refine f_region ?_
      refine scons (CStep.step (PStep.c (p_move (y := .val _) rfl (Sees.of rfl) rfl)) rfl rfl rfl rfl) ?_
      refine scons (CStep.step (PStep.c (p_assign (y := .val _) rfl (Sees.of rfl) rfl)) rfl rfl rfl rfl) ?_
      refine snil ?_
      refine f_ret ?_
      refine ends_ret (res_eq (res1 rfl (res_tmp rfl (Sees.of rfl))) ?_)
      rw [List.take_of_length_le (by omega)]

theorem pairWrong_spec (n : Int) (a : List (List Int)) (m : Int) (b : List (List Int)) :
    Spec Go.Proofs.Try.prog 83 [.val (cnf n a), .val (cnf m b)] (fault (Sp.betW n a m b).1 (Sp.betW n a m b).2) := by
  refine spec_of' Go.Proofs.Try.func83 rfl Go.Proofs.Try.ntmps83 rfl ?_
  refine f_seq ?_
  have hla0 : (Sp.check n a).1 = 0 → a.length ≤ 400 := fun h => (Sp.check_ok h).2.1
  have hlb0 : (Sp.check m b).1 = 0 → b.length ≤ 400 := fun h => (Sp.check_ok h).2.1
  refine f_region ?_
  refine scons (r_box (ob := 10002) rfl (Sees.of rfl) rfl rfl rfl rfl rfl rfl) ?_
  refine scons (r_box (ob := 10003) rfl (Sees.of rfl) rfl rfl rfl rfl rfl rfl) ?_
  refine scons (r_alloc (ob := 10004) rfl wBet4_zer26 rfl rfl rfl rfl rfl rfl) ?_
  refine snil ?_
  refine f_seq ?_
  refine f_region ?_
  refine scons (CStep.step (PStep.c (p_loadBS rfl wBet4_agg39 wBet4_siz39 (Sees.of rfl) rfl rfl rfl)) rfl rfl rfl rfl) ?_
  refine scons (CStep.step (c_call rfl wBet4_isf101 ⟨_, _, rfl, (Sees.of rfl), rfl, rfl⟩ (check_spec n a)) rfl rfl rfl rfl) ?_
  refine scons (r_alloc (ob := 10005) rfl wBet4_zer26 rfl rfl rfl rfl rfl rfl) ?_
  refine scons (r_storeS rfl wBet4_siz26 rfl rfl rfl (Sees.of rfl) rfl (Sees.of rfl) rfl rfl rfl rfl) ?_
  refine snil ?_
  refine f_seq ?_
  refine f_seq ?_
  refine f_region ?_
  refine scons (CStep.step (PStep.c (p_fieldRef rfl wBet4_fld26_0 wBet4_siz3 rfl (Sees.of rfl) rfl)) rfl rfl rfl rfl) ?_
  refine scons (CStep.step (PStep.c (p_loadB (y := .val _) rfl wBet4_agg3 (Sees.of rfl) rfl rfl rfl rfl)) rfl rfl rfl rfl) ?_
  refine scons (CStep.step (PStep.c (p_eql rfl (Sees.of rfl) (Sees.of rfl))) rfl rfl rfl rfl) ?_
  refine snil ?_
  refine f_cond rfl ?_ ?_
  · intro hc1
    try simp only [bs] at hc1
    have hlb : (b.length : Int) = b.length := rfl
    refine f_region ?_
    refine scons (CStep.step (PStep.c (p_loadBS rfl wBet4_agg39 wBet4_siz39 (Sees.of rfl) rfl rfl rfl)) rfl rfl rfl rfl) ?_
    refine scons (CStep.step (c_call rfl wBet4_isf101 ⟨_, _, rfl, (Sees.of rfl), rfl, rfl⟩ (check_spec m b)) rfl rfl rfl rfl) ?_
    refine scons (r_storeS rfl wBet4_siz26 rfl rfl rfl (Sees.of rfl) rfl (Sees.of rfl) rfl rfl rfl rfl) ?_
    refine snil ?_
    refine f_seq ?_
    refine f_seq ?_
    refine f_region ?_
    refine scons (CStep.step (PStep.c (p_fieldRef rfl wBet4_fld26_0 wBet4_siz3 rfl (Sees.of rfl) rfl)) rfl rfl rfl rfl) ?_
    refine scons (CStep.step (PStep.c (p_loadB (y := .val _) rfl wBet4_agg3 (Sees.of rfl) rfl rfl rfl rfl)) rfl rfl rfl rfl) ?_
    refine scons (CStep.step (PStep.c (p_eql rfl (Sees.of rfl) (Sees.of rfl))) rfl rfl rfl rfl) ?_
    refine scons (CStep.step (PStep.c (p_move (y := .val _) rfl (Sees.of rfl) rfl)) rfl rfl rfl rfl) ?_
    refine scons (CStep.guard rfl rfl rfl (fun hg0 => PStep.c (p_fieldRef rfl wBet4_fld39_0 wBet4_siz3 rfl (Sees.of rfl) rfl)) rfl rfl rfl rfl rfl) ?_
    refine scons (CStep.guard rfl rfl rfl (fun hg0 => PStep.c (p_loadB (y := .val _) rfl wBet4_agg3 (Sees.gv' rfl hg0) rfl rfl rfl rfl)) rfl rfl rfl rfl rfl) ?_
    refine scons (CStep.guard rfl rfl rfl (fun hg0 => PStep.c (p_fieldRef rfl wBet4_fld39_0 wBet4_siz3 rfl (Sees.of rfl) rfl)) rfl rfl rfl rfl rfl) ?_
    refine scons (CStep.guard rfl rfl rfl (fun hg0 => PStep.c (p_loadB (y := .val _) rfl wBet4_agg3 (Sees.gv' rfl hg0) rfl rfl rfl rfl)) rfl rfl rfl rfl rfl) ?_
    refine scons (CStep.guard rfl rfl rfl (fun hg0 => PStep.c (p_neq rfl (Sees.gv' rfl hg0) (Sees.gv' rfl hg0))) rfl rfl rfl rfl rfl) ?_
    refine scons (CStep.step (PStep.c (p_and rfl (Sees.of rfl) (fun h => Sees.gv' rfl (beq_of_eq h)) (Sees.of rfl))) rfl rfl rfl rfl) ?_
    refine snil ?_
    refine f_cond rfl ?_ ?_
    · intro hc2
      try simp only [bs] at hc2
      refine f_region ?_
      refine scons (CStep.step (PStep.c (p_build rfl wBet4_plc26 wBet4_zer26 (by decide) wBet4_zch26 ⟨_, _, _, rfl, rfl, rfl, (Sees.of rfl), ⟨_, _, _, rfl, rfl, rfl, (Sees.of rfl), rfl⟩⟩ rfl)) rfl rfl rfl rfl) ?_
      refine scons (r_storeS rfl wBet4_siz26 rfl rfl rfl (Sees.of rfl) rfl (Sees.of rfl) rfl rfl rfl rfl) ?_
      refine snil ?_
      refine f_seq ?_
      refine f_seq ?_
      try have hla := (Sp.check_ok hc1).2.1
      try have hlb4 : (Sp.check m b).1 = 0 → b.length ≤ 400 := fun h => (Sp.check_ok h).2.1
      refine f_region ?_
      refine scons (CStep.step (PStep.c (p_fieldRef rfl wBet4_fld26_0 wBet4_siz3 rfl (Sees.of rfl) rfl)) rfl rfl rfl rfl) ?_
      refine scons (CStep.step (PStep.c (p_loadB (y := .val _) rfl wBet4_agg3 (Sees.of rfl) rfl rfl rfl rfl)) rfl rfl rfl rfl) ?_
      refine scons (CStep.step (PStep.c (p_eql rfl (Sees.of rfl) (Sees.of rfl))) rfl rfl rfl rfl) ?_
      refine scons (CStep.step (PStep.c (p_move (y := .val _) rfl (Sees.of rfl) rfl)) rfl rfl rfl rfl) ?_
      refine scons (CStep.guard rfl rfl rfl (fun hg0 => PStep.c (p_fieldRef rfl wBet4_fld39_0 wBet4_siz3 rfl (Sees.of rfl) rfl)) rfl rfl rfl rfl rfl) ?_
      refine scons (CStep.guard rfl rfl rfl (fun hg0 => PStep.c (p_loadB (y := .val _) rfl wBet4_agg3 (Sees.gv' rfl hg0) rfl rfl rfl rfl)) rfl rfl rfl rfl rfl) ?_
      refine scons (CStep.guard rfl rfl rfl (fun hg0 => PStep.c (p_gtr rfl (Sees.gv' rfl hg0) (Sees.of rfl))) rfl rfl rfl rfl rfl) ?_
      refine scons (CStep.guard rfl rfl rfl (fun hg0 => PStep.c (p_move (y := .val _) rfl (Sees.gv' rfl hg0) rfl)) rfl rfl rfl rfl rfl) ?_
      refine scons (CStep.guard2 rfl rfl rfl (fun hg1 hg0 => PStep.c (p_fieldRef rfl wBet4_fld39_1 wBet4_siz37 rfl (Sees.of rfl) rfl)) rfl rfl rfl rfl rfl) ?_
      refine scons (CStep.guard2 rfl rfl rfl (fun hg1 hg0 => PStep.c (p_loadB (y := .val _) rfl wBet4_agg37 (Sees.gv' rfl (and_true_of hg1 hg0)) rfl rfl rfl rfl)) rfl rfl rfl rfl rfl) ?_
      refine scons (CStep.guard2 rfl rfl rfl (fun hg1 hg0 => PStep.c (p_len rfl wBet4_isl37 (Sees.gv' rfl (and_true_of hg1 hg0)))) rfl rfl rfl rfl rfl) ?_
      refine scons (CStep.guard2 rfl rfl rfl (fun hg1 hg0 => PStep.c (p_fieldRef rfl wBet4_fld39_1 wBet4_siz37 rfl (Sees.of rfl) rfl)) rfl rfl rfl rfl rfl) ?_
      refine scons (CStep.guard2 rfl rfl rfl (fun hg1 hg0 => PStep.c (p_loadB (y := .val _) rfl wBet4_agg37 (Sees.gv' rfl (and_true_of hg1 hg0)) rfl rfl rfl rfl)) rfl rfl rfl rfl rfl) ?_
      refine scons (CStep.guard2 rfl rfl rfl (fun hg1 hg0 => PStep.c (p_len rfl wBet4_isl37 (Sees.gv' rfl (and_true_of hg1 hg0)))) rfl rfl rfl rfl rfl) ?_
      refine scons (CStep.guard2 rfl rfl rfl (fun hg1 hg0 => by have hp0 := hg0; have hp1 := hg1; (try simp only [bs] at hp0 hp1); exact PStep.c (p_add rfl (Sees.gv' rfl (and_true_of hg1 hg0)) (Sees.gv' rfl (and_true_of hg1 hg0)) (by omega))) rfl rfl rfl rfl rfl) ?_
      refine scons (CStep.guard2 rfl rfl rfl (fun hg1 hg0 => PStep.c (p_gtr rfl (Sees.gv' rfl (and_true_of hg1 hg0)) (Sees.of rfl))) rfl rfl rfl rfl rfl) ?_
      refine scons (CStep.guard rfl rfl rfl (fun hg0 => PStep.c (p_or rfl (Sees.gv' rfl hg0) (Sees.of rfl) (fun h => Sees.gv' rfl (and_true_of hg0 (beq_of_eq h))))) rfl rfl rfl rfl rfl) ?_
      refine scons (CStep.step (PStep.c (p_and rfl (Sees.of rfl) (fun h => Sees.gv' rfl (beq_of_eq h)) (Sees.of rfl))) rfl rfl rfl rfl) ?_
      refine snil ?_
      refine f_cond rfl ?_ ?_
      · intro hc3
        try simp only [bs] at hc3
        first | omega | (simp at hc3)
      · intro hc3
        try simp only [bs] at hc3
        refine f_skip ?_
        refine f_seq ?_
        refine f_region ?_
        refine scons (CStep.step (PStep.c (p_loadBS rfl wBet4_agg26 wBet4_siz26 (Sees.of rfl) rfl rfl rfl)) rfl rfl rfl rfl) ?_
        refine scons (r_storeS rfl wBet4_siz26 rfl rfl rfl (Sees.of rfl) rfl (Sees.of rfl) rfl rfl rfl rfl) ?_
        refine snil ?_
        refine f_ret ?_
        refine ends_ret (res_eq (res1 rfl (res_cell (by rfl) rfl rfl wBet4_agg26 wBet4_siz26 rfl rfl)) ?_)
        rw [Sp.betW_n hc1 hc2.1 hc2.2]
        all_goals rfl
    · intro hc2
      try simp only [bs] at hc2
      refine f_skip ?_
      refine f_seq ?_
      refine f_seq ?_
      try have hla := (Sp.check_ok hc1).2.1
      try have hlb4 : (Sp.check m b).1 = 0 → b.length ≤ 400 := fun h => (Sp.check_ok h).2.1
      refine f_region ?_
      refine scons (CStep.step (PStep.c (p_fieldRef rfl wBet4_fld26_0 wBet4_siz3 rfl (Sees.of rfl) rfl)) rfl rfl rfl rfl) ?_
      refine scons (CStep.step (PStep.c (p_loadB (y := .val _) rfl wBet4_agg3 (Sees.of rfl) rfl rfl rfl rfl)) rfl rfl rfl rfl) ?_
      refine scons (CStep.step (PStep.c (p_eql rfl (Sees.of rfl) (Sees.of rfl))) rfl rfl rfl rfl) ?_
      refine scons (CStep.step (PStep.c (p_move (y := .val _) rfl (Sees.of rfl) rfl)) rfl rfl rfl rfl) ?_
      refine scons (CStep.guard rfl rfl rfl (fun hg0 => PStep.c (p_fieldRef rfl wBet4_fld39_0 wBet4_siz3 rfl (Sees.of rfl) rfl)) rfl rfl rfl rfl rfl) ?_
      refine scons (CStep.guard rfl rfl rfl (fun hg0 => PStep.c (p_loadB (y := .val _) rfl wBet4_agg3 (Sees.gv' rfl hg0) rfl rfl rfl rfl)) rfl rfl rfl rfl rfl) ?_
      refine scons (CStep.guard rfl rfl rfl (fun hg0 => PStep.c (p_gtr rfl (Sees.gv' rfl hg0) (Sees.of rfl))) rfl rfl rfl rfl rfl) ?_
      refine scons (CStep.guard rfl rfl rfl (fun hg0 => PStep.c (p_move (y := .val _) rfl (Sees.gv' rfl hg0) rfl)) rfl rfl rfl rfl rfl) ?_
      refine scons (CStep.guard2 rfl rfl rfl (fun hg1 hg0 => PStep.c (p_fieldRef rfl wBet4_fld39_1 wBet4_siz37 rfl (Sees.of rfl) rfl)) rfl rfl rfl rfl rfl) ?_
      refine scons (CStep.guard2 rfl rfl rfl (fun hg1 hg0 => PStep.c (p_loadB (y := .val _) rfl wBet4_agg37 (Sees.gv' rfl (and_true_of hg1 hg0)) rfl rfl rfl rfl)) rfl rfl rfl rfl rfl) ?_
      refine scons (CStep.guard2 rfl rfl rfl (fun hg1 hg0 => PStep.c (p_len rfl wBet4_isl37 (Sees.gv' rfl (and_true_of hg1 hg0)))) rfl rfl rfl rfl rfl) ?_
      refine scons (CStep.guard2 rfl rfl rfl (fun hg1 hg0 => PStep.c (p_fieldRef rfl wBet4_fld39_1 wBet4_siz37 rfl (Sees.of rfl) rfl)) rfl rfl rfl rfl rfl) ?_
      refine scons (CStep.guard2 rfl rfl rfl (fun hg1 hg0 => PStep.c (p_loadB (y := .val _) rfl wBet4_agg37 (Sees.gv' rfl (and_true_of hg1 hg0)) rfl rfl rfl rfl)) rfl rfl rfl rfl rfl) ?_
      refine scons (CStep.guard2 rfl rfl rfl (fun hg1 hg0 => PStep.c (p_len rfl wBet4_isl37 (Sees.gv' rfl (and_true_of hg1 hg0)))) rfl rfl rfl rfl rfl) ?_
      refine scons (CStep.guard2 rfl rfl rfl (fun hg1 hg0 => by have hp0 := hg0; have hp1 := hg1; (try simp only [bs] at hp0 hp1); exact PStep.c (p_add rfl (Sees.gv' rfl (and_true_of hg1 hg0)) (Sees.gv' rfl (and_true_of hg1 hg0)) (by omega))) rfl rfl rfl rfl rfl) ?_
      refine scons (CStep.guard2 rfl rfl rfl (fun hg1 hg0 => PStep.c (p_gtr rfl (Sees.gv' rfl (and_true_of hg1 hg0)) (Sees.of rfl))) rfl rfl rfl rfl rfl) ?_
      refine scons (CStep.guard rfl rfl rfl (fun hg0 => PStep.c (p_or rfl (Sees.gv' rfl hg0) (Sees.of rfl) (fun h => Sees.gv' rfl (and_true_of hg0 (beq_of_eq h))))) rfl rfl rfl rfl rfl) ?_
      refine scons (CStep.step (PStep.c (p_and rfl (Sees.of rfl) (fun h => Sees.gv' rfl (beq_of_eq h)) (Sees.of rfl))) rfl rfl rfl rfl) ?_
      refine snil ?_
      refine f_cond rfl ?_ ?_
      · intro hc4
        try simp only [bs] at hc4
        refine f_region ?_
        refine scons (CStep.step (PStep.c (p_build rfl wBet4_plc26 wBet4_zer26 (by decide) wBet4_zch26 ⟨_, _, _, rfl, rfl, rfl, (Sees.of rfl), ⟨_, _, _, rfl, rfl, rfl, (Sees.of rfl), rfl⟩⟩ rfl)) rfl rfl rfl rfl) ?_
        refine scons (r_storeS rfl wBet4_siz26 rfl rfl rfl (Sees.of rfl) rfl (Sees.of rfl) rfl rfl rfl rfl) ?_
        refine snil ?_
        refine f_seq ?_
        refine f_region ?_
        refine scons (CStep.step (PStep.c (p_loadBS rfl wBet4_agg26 wBet4_siz26 (Sees.of rfl) rfl rfl rfl)) rfl rfl rfl rfl) ?_
        refine scons (r_storeS rfl wBet4_siz26 rfl rfl rfl (Sees.of rfl) rfl (Sees.of rfl) rfl rfl rfl rfl) ?_
        refine snil ?_
        refine f_ret ?_
        refine ends_ret (res_eq (res1 rfl (res_cell (by rfl) rfl rfl wBet4_agg26 wBet4_siz26 rfl rfl)) ?_)
        rw [Sp.betW_m hc1 hc4.1 (by omega) (by omega)]
        all_goals rfl
      · intro hc4
        try simp only [bs] at hc4
        refine f_skip ?_
        refine f_seq ?_
        refine f_region ?_
        refine scons (CStep.step (PStep.c (p_loadBS rfl wBet4_agg26 wBet4_siz26 (Sees.of rfl) rfl rfl rfl)) rfl rfl rfl rfl) ?_
        refine scons (r_storeS rfl wBet4_siz26 rfl rfl rfl (Sees.of rfl) rfl (Sees.of rfl) rfl rfl rfl rfl) ?_
        refine snil ?_
        refine f_ret ?_
        refine ends_ret (res_eq (res1 rfl (res_cell (by rfl) rfl rfl wBet4_agg26 wBet4_siz26 rfl rfl)) ?_)
        rw [Sp.betW_o hc1 (by omega) (by omega)]
        all_goals rfl
  · intro hc1
    try simp only [bs] at hc1
    refine f_skip ?_
    refine f_seq ?_
    refine f_seq ?_
    refine f_region ?_
    refine scons (CStep.step (PStep.c (p_fieldRef rfl wBet4_fld26_0 wBet4_siz3 rfl (Sees.of rfl) rfl)) rfl rfl rfl rfl) ?_
    refine scons (CStep.step (PStep.c (p_loadB (y := .val _) rfl wBet4_agg3 (Sees.of rfl) rfl rfl rfl rfl)) rfl rfl rfl rfl) ?_
    refine scons (CStep.step (PStep.c (p_eql rfl (Sees.of rfl) (Sees.of rfl))) rfl rfl rfl rfl) ?_
    refine scons (CStep.step (PStep.c (p_move (y := .val _) rfl (Sees.of rfl) rfl)) rfl rfl rfl rfl) ?_
    refine scons (CStep.guard rfl rfl rfl (fun hg0 => PStep.c (p_fieldRef rfl wBet4_fld39_0 wBet4_siz3 rfl (Sees.of rfl) rfl)) rfl rfl rfl rfl rfl) ?_
    refine scons (CStep.guard rfl rfl rfl (fun hg0 => PStep.c (p_loadB (y := .val _) rfl wBet4_agg3 (Sees.gv' rfl hg0) rfl rfl rfl rfl)) rfl rfl rfl rfl rfl) ?_
    refine scons (CStep.guard rfl rfl rfl (fun hg0 => PStep.c (p_fieldRef rfl wBet4_fld39_0 wBet4_siz3 rfl (Sees.of rfl) rfl)) rfl rfl rfl rfl rfl) ?_
    refine scons (CStep.guard rfl rfl rfl (fun hg0 => PStep.c (p_loadB (y := .val _) rfl wBet4_agg3 (Sees.gv' rfl hg0) rfl rfl rfl rfl)) rfl rfl rfl rfl rfl) ?_
    refine scons (CStep.guard rfl rfl rfl (fun hg0 => PStep.c (p_neq rfl (Sees.gv' rfl hg0) (Sees.gv' rfl hg0))) rfl rfl rfl rfl rfl) ?_
    refine scons (CStep.step (PStep.c (p_and rfl (Sees.of rfl) (fun h => Sees.gv' rfl (beq_of_eq h)) (Sees.of rfl))) rfl rfl rfl rfl) ?_
    refine snil ?_
    refine f_cond rfl ?_ ?_
    · intro hc5
      try simp only [bs] at hc5
      omega
    · intro hc5
      try simp only [bs] at hc5
      refine f_skip ?_
      refine f_seq ?_
      refine f_seq ?_
      try have hla := (Sp.check_ok hc1).2.1
      try have hlb4 : (Sp.check m b).1 = 0 → b.length ≤ 400 := fun h => (Sp.check_ok h).2.1
      refine f_region ?_
      refine scons (CStep.step (PStep.c (p_fieldRef rfl wBet4_fld26_0 wBet4_siz3 rfl (Sees.of rfl) rfl)) rfl rfl rfl rfl) ?_
      refine scons (CStep.step (PStep.c (p_loadB (y := .val _) rfl wBet4_agg3 (Sees.of rfl) rfl rfl rfl rfl)) rfl rfl rfl rfl) ?_
      refine scons (CStep.step (PStep.c (p_eql rfl (Sees.of rfl) (Sees.of rfl))) rfl rfl rfl rfl) ?_
      refine scons (CStep.step (PStep.c (p_move (y := .val _) rfl (Sees.of rfl) rfl)) rfl rfl rfl rfl) ?_
      refine scons (CStep.guard rfl rfl rfl (fun hg0 => PStep.c (p_fieldRef rfl wBet4_fld39_0 wBet4_siz3 rfl (Sees.of rfl) rfl)) rfl rfl rfl rfl rfl) ?_
      refine scons (CStep.guard rfl rfl rfl (fun hg0 => PStep.c (p_loadB (y := .val _) rfl wBet4_agg3 (Sees.gv' rfl hg0) rfl rfl rfl rfl)) rfl rfl rfl rfl rfl) ?_
      refine scons (CStep.guard rfl rfl rfl (fun hg0 => PStep.c (p_gtr rfl (Sees.gv' rfl hg0) (Sees.of rfl))) rfl rfl rfl rfl rfl) ?_
      refine scons (CStep.guard rfl rfl rfl (fun hg0 => PStep.c (p_move (y := .val _) rfl (Sees.gv' rfl hg0) rfl)) rfl rfl rfl rfl rfl) ?_
      refine scons (CStep.guard2 rfl rfl rfl (fun hg1 hg0 => PStep.c (p_fieldRef rfl wBet4_fld39_1 wBet4_siz37 rfl (Sees.of rfl) rfl)) rfl rfl rfl rfl rfl) ?_
      refine scons (CStep.guard2 rfl rfl rfl (fun hg1 hg0 => PStep.c (p_loadB (y := .val _) rfl wBet4_agg37 (Sees.gv' rfl (and_true_of hg1 hg0)) rfl rfl rfl rfl)) rfl rfl rfl rfl rfl) ?_
      refine scons (CStep.guard2 rfl rfl rfl (fun hg1 hg0 => PStep.c (p_len rfl wBet4_isl37 (Sees.gv' rfl (and_true_of hg1 hg0)))) rfl rfl rfl rfl rfl) ?_
      refine scons (CStep.guard2 rfl rfl rfl (fun hg1 hg0 => PStep.c (p_fieldRef rfl wBet4_fld39_1 wBet4_siz37 rfl (Sees.of rfl) rfl)) rfl rfl rfl rfl rfl) ?_
      refine scons (CStep.guard2 rfl rfl rfl (fun hg1 hg0 => PStep.c (p_loadB (y := .val _) rfl wBet4_agg37 (Sees.gv' rfl (and_true_of hg1 hg0)) rfl rfl rfl rfl)) rfl rfl rfl rfl rfl) ?_
      refine scons (CStep.guard2 rfl rfl rfl (fun hg1 hg0 => PStep.c (p_len rfl wBet4_isl37 (Sees.gv' rfl (and_true_of hg1 hg0)))) rfl rfl rfl rfl rfl) ?_
      refine scons (CStep.guard2 rfl rfl rfl (fun hg1 hg0 => by have hp0 := hg0; have hp1 := hg1; (try simp only [bs] at hp0 hp1); exact PStep.c (p_add rfl (Sees.gv' rfl (and_true_of hg1 hg0)) (Sees.gv' rfl (and_true_of hg1 hg0)) (by omega))) rfl rfl rfl rfl rfl) ?_
      refine scons (CStep.guard2 rfl rfl rfl (fun hg1 hg0 => PStep.c (p_gtr rfl (Sees.gv' rfl (and_true_of hg1 hg0)) (Sees.of rfl))) rfl rfl rfl rfl rfl) ?_
      refine scons (CStep.guard rfl rfl rfl (fun hg0 => PStep.c (p_or rfl (Sees.gv' rfl hg0) (Sees.of rfl) (fun h => Sees.gv' rfl (and_true_of hg0 (beq_of_eq h))))) rfl rfl rfl rfl rfl) ?_
      refine scons (CStep.step (PStep.c (p_and rfl (Sees.of rfl) (fun h => Sees.gv' rfl (beq_of_eq h)) (Sees.of rfl))) rfl rfl rfl rfl) ?_
      refine snil ?_
      refine f_cond rfl ?_ ?_
      · intro hc6
        try simp only [bs] at hc6
        omega
      · intro hc6
        try simp only [bs] at hc6
        refine f_skip ?_
        refine f_seq ?_
        refine f_region ?_
        refine scons (CStep.step (PStep.c (p_loadBS rfl wBet4_agg26 wBet4_siz26 (Sees.of rfl) rfl rfl rfl)) rfl rfl rfl rfl) ?_
        refine scons (r_storeS rfl wBet4_siz26 rfl rfl rfl (Sees.of rfl) rfl (Sees.of rfl) rfl rfl rfl rfl) ?_
        refine snil ?_
        refine f_ret ?_
        refine ends_ret (res_eq (res1 rfl (res_cell (by rfl) rfl rfl wBet4_agg26 wBet4_siz26 rfl rfl)) ?_)
        rw [Sp.betW_a hc1]
        all_goals rfl

theorem stands_spec (ls : List (List Int)) (v : Int) (hv : -9223372036854775808 < v ∧ v ≤ 9223372036854775807) :
    Spec Go.Proofs.Try.prog 43 [.val (intss ls), iv v] (D.bool (Sp.occ ls v)) := by
  refine spec_of' Go.Proofs.Try.func43 rfl Go.Proofs.Try.ntmps43 rfl ?_
  refine f_seq ?_
  refine f_wf (.tmp 0) rfl (fun hwf => ?_) (by simp)
  have hlen : ls.length ≤ 140737488355328 := hwf.1
  clear hwf
  refine f_region ?_
  refine scons (CStep.step (PStep.c (p_assign (y := .val _) rfl (Sees.of rfl) rfl)) rfl rfl rfl rfl) ?_
  refine snil ?_
  refine f_seq ?_
  refine f_seq ?_
  refine f_region ?_
  refine scons (CStep.step (PStep.c (p_assign (y := .val _) rfl (Sees.of rfl) rfl)) rfl rfl rfl rfl) ?_
  refine snil ?_
  refine f_block ?_
  refine f_loop (α := Nat) (fun i => i ≤ ls.length ∧ ∀ y ∈ ls.take i, (decide (v ∈ y) || decide (-v ∈ y)) = false) (fun i => [(5, iv i), (0, .val (intss ls)), (1, iv v)]) (fun i => ls.length - i) 0 ?_ ?_ ?_
  · exact ⟨Nat.zero_le _, by simp⟩
  · exact le_ofL ⟨rfl, rfl, rfl, trivial⟩ rfl
  · rintro i ⟨hi, hp⟩
    refine f_seq ?_
    refine f_seq ?_
    refine f_region ?_
    refine scons (CStep.step (PStep.c (p_move (y := .val _) rfl (Sees.of rfl) rfl)) rfl rfl rfl rfl) ?_
    refine scons (CStep.step (PStep.c (p_move (y := .val _) rfl (Sees.of rfl) rfl)) rfl rfl rfl rfl) ?_
    refine scons (CStep.step (PStep.c (p_len rfl wBet4_isl37 (Sees.of rfl))) rfl rfl rfl rfl) ?_
    refine scons (CStep.step (PStep.c (p_lss rfl (Sees.of rfl) (Sees.of rfl))) rfl rfl rfl rfl) ?_
    refine snil ?_
    refine f_cond rfl ?_ ?_
    · intro hc1
      try simp only [bs] at hc1
      refine f_skip ?_
      refine f_seq ?_
      refine f_block ?_
      refine f_seq ?_
      refine f_region ?_
      refine scons (CStep.step (PStep.c (p_move (y := .val _) rfl (Sees.of rfl) rfl)) rfl rfl rfl rfl) ?_
      refine scons (CStep.step (PStep.c (p_move (y := .val _) rfl (Sees.of rfl) rfl)) rfl rfl rfl rfl) ?_
      refine scons (CStep.step (PStep.c ((by first | exact p_indexN rfl wBet4_isl37 wBet4_siz33 (Sees.of rfl) (Sees.of rfl) (by omega) | exact p_index rfl wBet4_isl37 wBet4_siz33 (Sees.of rfl) (Sees.of rfl) (by omega) (by omega)))) rfl rfl rfl rfl) ?_
      refine scons (CStep.step (PStep.c (p_load rfl wBet4_agg33 (Sees.of rfl) rfl)) rfl rfl rfl rfl) ?_
      refine scons (CStep.step (PStep.c (p_move (y := .val _) rfl (Sees.of rfl) rfl)) rfl rfl rfl rfl) ?_
      refine scons (CStep.step (c_call rfl wBet4_isf78 ⟨_, _, rfl, (Sees.of rfl), rfl, ⟨_, _, rfl, (Sees.of rfl), rfl, rfl⟩⟩ (has_spec (ls.getD i []) v)) rfl rfl rfl rfl) ?_
      refine scons (CStep.step (PStep.c (p_move (y := .val _) rfl (Sees.of rfl) rfl)) rfl rfl rfl rfl) ?_
      refine scons (CStep.guard rfl rfl rfl (fun hg0 => PStep.c (p_move (y := .val _) rfl (Sees.of rfl) rfl)) rfl rfl rfl rfl rfl) ?_
      refine scons (CStep.guard rfl rfl rfl (fun hg0 => PStep.c (p_move (y := .val _) rfl (Sees.of rfl) rfl)) rfl rfl rfl rfl rfl) ?_
      refine scons (CStep.guard rfl rfl rfl (fun hg0 => by have hp0 := hg0; (try simp only [bs] at hp0); exact PStep.c ((by first | exact p_indexN rfl wBet4_isl37 wBet4_siz33 (Sees.gv' rfl hg0) (Sees.gv' rfl hg0) (by omega) | exact p_index rfl wBet4_isl37 wBet4_siz33 (Sees.gv' rfl hg0) (Sees.gv' rfl hg0) (by omega) (by omega)))) rfl rfl rfl rfl rfl) ?_
      refine scons (CStep.guard rfl rfl rfl (fun hg0 => PStep.c (p_load rfl wBet4_agg33 (Sees.gv' rfl hg0) rfl)) rfl rfl rfl rfl rfl) ?_
      refine scons (CStep.guard rfl rfl rfl (fun hg0 => PStep.c (p_move (y := .val _) rfl (Sees.of rfl) rfl)) rfl rfl rfl rfl rfl) ?_
      refine scons (CStep.guard rfl rfl rfl (fun hg0 => by have hp0 := hg0; (try simp only [bs] at hp0); exact PStep.c (p_neg rfl (Sees.gv' rfl hg0) (by omega))) rfl rfl rfl rfl rfl) ?_
      refine scons (CStep.guard rfl rfl rfl (fun hg0 => c_call rfl wBet4_isf78 ⟨_, _, rfl, (Sees.gv' rfl hg0), rfl, ⟨_, _, rfl, (Sees.gv' rfl hg0), rfl, rfl⟩⟩ (has_spec (ls.getD i []) (-v))) rfl rfl rfl rfl rfl) ?_
      refine scons (CStep.step (PStep.c (p_or rfl (Sees.of rfl) (Sees.of rfl) (fun h => Sees.gv' rfl (beq_of_eq h)))) rfl rfl rfl rfl) ?_
      refine snil ?_
      refine f_cond rfl ?_ ?_
      · intro hc2
        try simp only [bs] at hc2
        refine f_seq ?_
        refine f_region ?_
        refine scons (CStep.step (PStep.c (p_assign (y := .val _) rfl (Sees.of rfl) rfl)) rfl rfl rfl rfl) ?_
        refine snil ?_
        refine f_ret ?_
        refine ends_ret (res_eq (res1 rfl (res_tmp rfl (Sees.of rfl))) ?_)
        rw [Sp.occ, Sp.any_of (i := i) (z := []) (by omega) (by simpa using hc2)]
      · intro hc2
        try simp only [bs] at hc2
        refine f_skip ?_
        refine f_nil ?_
        show AWs _ _ _ _ _
        refine f_region ?_
        refine scons (CStep.step (PStep.c (p_move (y := .val _) rfl (Sees.of rfl) rfl)) rfl rfl rfl rfl) ?_
        refine scons (CStep.step (PStep.c (p_add rfl (Sees.of rfl) (Sees.of rfl) (by omega))) rfl rfl rfl rfl) ?_
        refine scons (CStep.step (PStep.c (p_assign (y := .val _) rfl (Sees.of rfl) rfl)) rfl rfl rfl rfl) ?_
        refine snil ?_
        refine f_back ⟨i + 1, ?_, ?_, le_ofL ⟨rfl, rfl, rfl, trivial⟩ rfl⟩
        · exact ⟨by omega, Sp.step_all (z := []) (by omega) hp (by simpa using hc2)⟩
        · omega
    · intro hc1
      try simp only [bs] at hc1
      refine f_exit ?_
      show AWs _ _ _ _ _
      refine f_seq ?_
      refine f_region ?_
      refine scons (CStep.step (PStep.c (p_assign (y := .val _) rfl (Sees.of rfl) rfl)) rfl rfl rfl rfl) ?_
      refine snil ?_
      refine f_ret ?_
      refine ends_ret (res_eq (res1 rfl (res_tmp rfl (Sees.of rfl))) ?_)
      rw [Sp.occ, Sp.any_none (by omega) hp]

theorem resolvedR_spec (a b : List Int) (v : Int) (hv : -9223372036854775808 < v ∧ v ≤ 9223372036854775807) (hab : ∀ x ∈ a ++ b, (-9223372036854775808 < x ∧ x ≤ 9223372036854775807) ∧ x ≠ 0) (hl : a.length + b.length ≤ 1000000) :
    Spec Go.Proofs.Try.prog 130 [.val (ints a), .val (ints b), iv v] (two (ints (Sp.res2 a b v).1) (di (Sp.res2 a b v).2)) := by
  refine spec_of' Go.Proofs.Try.func130 rfl Go.Proofs.Try.ntmps130 rfl ?_
  refine f_seq ?_
  refine f_region ?_
  refine scons (CStep.step (PStep.c (p_assign (y := .emp) rfl (Sees.of rfl) rfl)) rfl rfl rfl rfl) ?_
  refine scons (CStep.step (PStep.c (p_assign (y := .val _) rfl (Sees.of rfl) rfl)) rfl rfl rfl rfl) ?_
  refine snil ?_
  refine f_seq ?_
  refine f_seq ?_
  refine f_region ?_
  refine scons (CStep.step (PStep.c (p_move (y := .val _) rfl (Sees.of rfl) rfl)) rfl rfl rfl rfl) ?_
  refine scons (CStep.step (PStep.c (p_move (y := .val _) rfl (Sees.of rfl) rfl)) rfl rfl rfl rfl) ?_
  refine scons (CStep.step (c_call rfl wBet4_isf78 ⟨_, _, rfl, (Sees.of rfl), rfl, ⟨_, _, rfl, (Sees.of rfl), rfl, rfl⟩⟩ (has_spec a v)) rfl rfl rfl rfl) ?_
  refine scons (CStep.step (PStep.c (p_not rfl (Sees.of rfl))) rfl rfl rfl rfl) ?_
  refine scons (CStep.step (PStep.c (p_move (y := .val _) rfl (Sees.of rfl) rfl)) rfl rfl rfl rfl) ?_
  refine scons (CStep.guard rfl rfl rfl (fun hg0 => PStep.c (p_move (y := .val _) rfl (Sees.of rfl) rfl)) rfl rfl rfl rfl rfl) ?_
  refine scons (CStep.guard rfl rfl rfl (fun hg0 => PStep.c (p_move (y := .val _) rfl (Sees.of rfl) rfl)) rfl rfl rfl rfl rfl) ?_
  refine scons (CStep.guard rfl rfl rfl (fun hg0 => by have hp0 := hg0; (try simp only [bs] at hp0); exact PStep.c (p_neg rfl (Sees.gv' rfl hg0) (by omega))) rfl rfl rfl rfl rfl) ?_
  refine scons (CStep.guard rfl rfl rfl (fun hg0 => c_call rfl wBet4_isf78 ⟨_, _, rfl, (Sees.gv' rfl hg0), rfl, ⟨_, _, rfl, (Sees.gv' rfl hg0), rfl, rfl⟩⟩ (has_spec b (-v))) rfl rfl rfl rfl rfl) ?_
  refine scons (CStep.guard rfl rfl rfl (fun hg0 => PStep.c (p_not rfl (Sees.gv' rfl hg0))) rfl rfl rfl rfl rfl) ?_
  refine scons (CStep.step (PStep.c (p_or rfl (Sees.of rfl) (Sees.of rfl) (fun h => Sees.gv' rfl (beq_of_eq h)))) rfl rfl rfl rfl) ?_
  refine snil ?_
  refine f_cond rfl ?_ ?_
  · intro hc1
    try simp only [bs] at hc1
    refine f_seq ?_
    refine f_region ?_
    refine scons (CStep.step (PStep.c (p_assign (y := .emp) rfl (Sees.of rfl) rfl)) rfl rfl rfl rfl) ?_
    refine scons (CStep.step (PStep.c (p_assign (y := .val _) rfl (Sees.of rfl) rfl)) rfl rfl rfl rfl) ?_
    refine snil ?_
    refine f_ret ?_
    refine ends_ret (res_eq (res2 rfl (res_tmp rfl (Sees.emp rfl 1 di 0)) (res_tmp rfl (Sees.of rfl))) ?_)
    rw [Sp.res2_form (by simpa using hc1)]
  · intro hc1
    try simp only [bs] at hc1
    refine f_skip ?_
    refine f_seq ?_
    refine f_region ?_
    refine scons (CStep.step (PStep.c (p_assign (y := .emp) rfl (Sees.of rfl) rfl)) rfl rfl rfl rfl) ?_
    refine snil ?_
    refine f_seq ?_
    refine f_seq ?_
    refine f_region ?_
    refine scons (CStep.step (PStep.c (p_assign (y := .val _) rfl (Sees.of rfl) rfl)) rfl rfl rfl rfl) ?_
    refine snil ?_
    refine f_block ?_
    refine f_loop (α := Nat × Nat × List Int) (fun (i, u, out) => Sp.RInv v (a ++ b) out i) (fun (i, u, out) => [(9, iv i), (8, .row 30000 u), (30000, .arr u 3 1 8 di 0 out), (0, .val (ints a)), (1, .val (ints b)), (2, iv v)]) (fun (i, u, out) => (a ++ b).length - i) (0, 0, []) ?_ ?_ ?_
    · exact Sp.RInv.zero v (a ++ b)
    · exact Le.trans (GLe.le (g_adopt (ob := 30000) (k := 8) 3 1 8 di 0 rfl rfl rfl rfl)) (le_ofL ⟨rfl, rfl, rfl, rfl, rfl, rfl, trivial⟩ rfl)
    · rintro ⟨i, u, out⟩ hI
      have hI : Sp.RInv v (a ++ b) out i := hI
      have hia := hI.1
      have hal : (a ++ b).length = a.length + b.length := List.length_append
      refine f_seq ?_
      refine f_seq ?_
      refine f_region ?_
      refine scons (CStep.step (PStep.c (p_move (y := .val _) rfl (Sees.of rfl) rfl)) rfl rfl rfl rfl) ?_
      refine scons (CStep.step (PStep.c (p_move (y := .val _) rfl (Sees.of rfl) rfl)) rfl rfl rfl rfl) ?_
      refine scons (CStep.step (PStep.c (p_len rfl wBet4_isl33 (Sees.of rfl))) rfl rfl rfl rfl) ?_
      refine scons (CStep.step (PStep.c (p_move (y := .val _) rfl (Sees.of rfl) rfl)) rfl rfl rfl rfl) ?_
      refine scons (CStep.step (PStep.c (p_len rfl wBet4_isl33 (Sees.of rfl))) rfl rfl rfl rfl) ?_
      refine scons (CStep.step (PStep.c (p_add rfl (Sees.of rfl) (Sees.of rfl) (by omega))) rfl rfl rfl rfl) ?_
      refine scons (CStep.step (PStep.c (p_lss rfl (Sees.of rfl) (Sees.of rfl))) rfl rfl rfl rfl) ?_
      refine snil ?_
      refine f_cond rfl ?_ ?_
      · intro hc2
        try simp only [bs] at hc2
        refine f_skip ?_
        refine f_seq ?_
        refine f_block ?_
        refine f_seq ?_
        refine f_region ?_
        refine scons (CStep.step (PStep.c (p_assign (y := .val _) rfl (Sees.of rfl) rfl)) rfl rfl rfl rfl) ?_
        refine snil ?_
        refine f_seq ?_
        refine f_seq ?_
        refine f_region ?_
        refine scons (CStep.step (PStep.c (p_move (y := .val _) rfl (Sees.of rfl) rfl)) rfl rfl rfl rfl) ?_
        refine scons (CStep.step (PStep.c (p_move (y := .val _) rfl (Sees.of rfl) rfl)) rfl rfl rfl rfl) ?_
        refine scons (CStep.step (PStep.c (p_len rfl wBet4_isl33 (Sees.of rfl))) rfl rfl rfl rfl) ?_
        refine scons (CStep.step (PStep.c (p_lss rfl (Sees.of rfl) (Sees.of rfl))) rfl rfl rfl rfl) ?_
        refine snil ?_
        refine f_cond rfl ?_ ?_
        · intro hc3
          try simp only [bs] at hc3
          have hxe : (a ++ b).getD i 0 = (a.getD i 0) := Sp.app_lo (by omega)
          obtain ⟨hxr, hx0⟩ := hab _ (Sp.getD_mem (a ++ b) i 0 (by omega))
          rw [hxe] at hxr hx0
          refine f_region ?_
          refine scons (CStep.step (PStep.c (p_move (y := .val _) rfl (Sees.of rfl) rfl)) rfl rfl rfl rfl) ?_
          refine scons (CStep.step (PStep.c (p_move (y := .val _) rfl (Sees.of rfl) rfl)) rfl rfl rfl rfl) ?_
          refine scons (CStep.step (PStep.c ((by first | exact p_indexN rfl wBet4_isl33 wBet4_siz3 (Sees.of rfl) (Sees.of rfl) (by omega) | exact p_index rfl wBet4_isl33 wBet4_siz3 (Sees.of rfl) (Sees.of rfl) (by omega) (by omega)))) rfl rfl rfl rfl) ?_
          refine scons (CStep.step (PStep.c (p_load rfl wBet4_agg3 (Sees.of rfl) rfl)) rfl rfl rfl rfl) ?_
          refine scons (CStep.step (PStep.c (p_assign (y := .val _) rfl (Sees.of rfl) rfl)) rfl rfl rfl rfl) ?_
          refine snil ?_
          refine f_seq ?_
          refine f_seq ?_
          refine f_region ?_
          refine scons (CStep.step (PStep.c (p_move (y := .val _) rfl (Sees.of rfl) rfl)) rfl rfl rfl rfl) ?_
          refine scons (CStep.step (c_call rfl wBet4_isf29 ⟨_, _, rfl, (Sees.of rfl), rfl, rfl⟩ (ofB_spec _ hxr)) rfl rfl rfl rfl) ?_
          refine scons (CStep.step (PStep.c (p_move (y := .val _) rfl (Sees.of rfl) rfl)) rfl rfl rfl rfl) ?_
          refine scons (CStep.step (PStep.c (p_eql rfl (Sees.of rfl) (Sees.of rfl))) rfl rfl rfl rfl) ?_
          refine snil ?_
          refine f_cond rfl ?_ ?_
          · intro hc4
            try simp only [bs] at hc4
            refine f_exit ?_
            show AWs _ _ _ _ _
            refine f_region ?_
            refine scons (CStep.step (PStep.c (p_move (y := .val _) rfl (Sees.of rfl) rfl)) rfl rfl rfl rfl) ?_
            refine scons (CStep.step (PStep.c (p_add rfl (Sees.of rfl) (Sees.of rfl) (by omega))) rfl rfl rfl rfl) ?_
            refine scons (CStep.step (PStep.c (p_assign (y := .val _) rfl (Sees.of rfl) rfl)) rfl rfl rfl rfl) ?_
            refine snil ?_
            refine f_back ⟨(i + 1, u, out), ?_, ?_, le_ofL ⟨rfl, rfl, rfl, rfl, rfl, rfl, trivial⟩ rfl⟩
            · exact hI.skip (by omega) hxe (.inl hc4)
            · show _ - (i + 1) < _ - i
              omega
          · intro hc4
            try simp only [bs] at hc4
            refine f_skip ?_
            refine f_seq ?_
            refine f_seq ?_
            refine f_region ?_
            refine scons (CStep.step (PStep.c (p_move (y := .row _ _) rfl (Sees.of rfl) rfl)) rfl rfl rfl rfl) ?_
            refine scons (CStep.step (PStep.c (p_move (y := .val _) rfl (Sees.of rfl) rfl)) rfl rfl rfl rfl) ?_
            refine scons (CStep.step (PStep.c (p_neg rfl (Sees.of rfl) (by omega))) rfl rfl rfl rfl) ?_
            refine scons (CStep.step (c_callS (q := true) rfl wBet4_isf78 (has_spec out _) (sa_cons (sh_row (Sees.of rfl) rfl) (sa_cons (sh_of (Sees.of rfl) rfl) (sa_nil))) rfl) rfl rfl rfl rfl) ?_
            refine snil ?_
            refine f_cond rfl ?_ ?_
            · intro hc5
              try simp only [bs] at hc5
              refine f_seq ?_
              refine f_region ?_
              refine scons (CStep.step (PStep.c (p_assign (y := .emp) rfl (Sees.of rfl) rfl)) rfl rfl rfl rfl) ?_
              refine scons (CStep.step (PStep.c (p_assign (y := .val _) rfl (Sees.of rfl) rfl)) rfl rfl rfl rfl) ?_
              refine snil ?_
              refine f_ret ?_
              refine ends_ret (res_eq (res2 rfl (res_tmp rfl (Sees.emp rfl 1 di 0)) (res_tmp rfl (Sees.of rfl))) ?_)
              rw [Sp.res2_none (by simpa using hc1) (hI.none (by omega) hxe hc4 (by simpa using hc5))]
            · intro hc5
              try simp only [bs] at hc5
              refine f_skip ?_
              refine f_seq ?_
              refine f_region ?_
              refine scons (CStep.step (PStep.c (p_move (y := .row _ _) rfl (Sees.of rfl) rfl)) rfl rfl rfl rfl) ?_
              refine scons (CStep.step (PStep.c (p_move (y := .val _) rfl (Sees.of rfl) rfl)) rfl rfl rfl rfl) ?_
              refine scons (CStep.step (c_callS (q := true) rfl wBet4_isf78 (has_spec out _) (sa_cons (sh_row (Sees.of rfl) rfl) (sa_cons (sh_of (Sees.of rfl) rfl) (sa_nil))) rfl) rfl rfl rfl rfl) ?_
              refine scons (CStep.step (PStep.c (p_not rfl (Sees.of rfl))) rfl rfl rfl rfl) ?_
              refine snil ?_
              refine f_cond rfl ?_ ?_
              · intro hc6
                try simp only [bs] at hc6
                refine f_region ?_
                refine scons (CStep.step (PStep.c (p_move (y := .row _ _) rfl (Sees.of rfl) rfl)) rfl rfl rfl rfl) ?_
                refine scons (CStep.step (PStep.c (p_move (y := .val _) rfl (Sees.of rfl) rfl)) rfl rfl rfl rfl) ?_
                refine scons (CStep.step (c_buildSlice (f := di) (za := 0) (xs := [.tmp 59]) rfl rfl wBet4_isl33 wBet4_siz3 wBet4_zer3 rfl rfl ⟨_, _, rfl, (Sees.of rfl), rfl, rfl, rfl⟩) rfl rfl rfl rfl) ?_
                refine scons (r_appendR (ob := 30000) rfl wBet4_isl33 wBet4_siz3 wBet4_byt3 wBet4_zer3 rfl rfl (Sees.of rfl) rfl (Sees.of rfl) (by have h1 := hI.2.2.1; have h2 := hI.1; simp only [List.length_cons, List.length_nil, List.length_append] at *; omega) (by have h1 := hI.2.2.1; have h2 := hI.1; simp only [List.length_cons, List.length_nil, List.length_append] at *; omega) rfl rfl rfl rfl rfl) ?_
                refine scons (CStep.step (PStep.c (p_assign (y := .row _ _) rfl (Sees.of rfl) rfl)) rfl rfl rfl rfl) ?_
                refine snil ?_
                refine f_nil ?_
                show AWs _ _ _ _ _
                refine f_region ?_
                refine scons (CStep.step (PStep.c (p_move (y := .val _) rfl (Sees.of rfl) rfl)) rfl rfl rfl rfl) ?_
                refine scons (CStep.step (PStep.c (p_add rfl (Sees.of rfl) (Sees.of rfl) (by omega))) rfl rfl rfl rfl) ?_
                refine scons (CStep.step (PStep.c (p_assign (y := .val _) rfl (Sees.of rfl) rfl)) rfl rfl rfl rfl) ?_
                refine snil ?_
                refine f_back ⟨(i + 1, u + 1, out ++ [(a.getD i 0)]), ?_, ?_, le_ofL ⟨rfl, rfl, rfl, rfl, rfl, rfl, trivial⟩ rfl⟩
                · exact hI.add (by omega) hxe hxr hx0 hc4 (by simpa using hc5) (by simpa using hc6)
                · show _ - (i + 1) < _ - i
                  omega
              · intro hc6
                try simp only [bs] at hc6
                refine f_skip ?_
                refine f_nil ?_
                show AWs _ _ _ _ _
                refine f_region ?_
                refine scons (CStep.step (PStep.c (p_move (y := .val _) rfl (Sees.of rfl) rfl)) rfl rfl rfl rfl) ?_
                refine scons (CStep.step (PStep.c (p_add rfl (Sees.of rfl) (Sees.of rfl) (by omega))) rfl rfl rfl rfl) ?_
                refine scons (CStep.step (PStep.c (p_assign (y := .val _) rfl (Sees.of rfl) rfl)) rfl rfl rfl rfl) ?_
                refine snil ?_
                refine f_back ⟨(i + 1, u, out), ?_, ?_, le_ofL ⟨rfl, rfl, rfl, rfl, rfl, rfl, trivial⟩ rfl⟩
                · exact hI.skip (by omega) hxe (.inr (by simpa using hc6))
                · show _ - (i + 1) < _ - i
                  omega
        · intro hc3
          try simp only [bs] at hc3
          have hxe : (a ++ b).getD i 0 = (b.getD ((i : Int) - a.length).toNat 0) := Sp.app_hi (by omega)
          obtain ⟨hxr, hx0⟩ := hab _ (Sp.getD_mem (a ++ b) i 0 (by omega))
          rw [hxe] at hxr hx0
          refine f_region ?_
          refine scons (CStep.step (PStep.c (p_move (y := .val _) rfl (Sees.of rfl) rfl)) rfl rfl rfl rfl) ?_
          refine scons (CStep.step (PStep.c (p_move (y := .val _) rfl (Sees.of rfl) rfl)) rfl rfl rfl rfl) ?_
          refine scons (CStep.step (PStep.c (p_move (y := .val _) rfl (Sees.of rfl) rfl)) rfl rfl rfl rfl) ?_
          refine scons (CStep.step (PStep.c (p_len rfl wBet4_isl33 (Sees.of rfl))) rfl rfl rfl rfl) ?_
          refine scons (CStep.step (PStep.c (p_sub rfl (Sees.of rfl) (Sees.of rfl) (by omega))) rfl rfl rfl rfl) ?_
          refine scons (CStep.step (PStep.c ((by first | exact p_indexN rfl wBet4_isl33 wBet4_siz3 (Sees.of rfl) (Sees.of rfl) (by omega) | exact p_index rfl wBet4_isl33 wBet4_siz3 (Sees.of rfl) (Sees.of rfl) (by omega) (by omega)))) rfl rfl rfl rfl) ?_
          refine scons (CStep.step (PStep.c (p_load rfl wBet4_agg3 (Sees.of rfl) rfl)) rfl rfl rfl rfl) ?_
          refine scons (CStep.step (PStep.c (p_assign (y := .val _) rfl (Sees.of rfl) rfl)) rfl rfl rfl rfl) ?_
          refine snil ?_
          refine f_seq ?_
          refine f_seq ?_
          refine f_region ?_
          refine scons (CStep.step (PStep.c (p_move (y := .val _) rfl (Sees.of rfl) rfl)) rfl rfl rfl rfl) ?_
          refine scons (CStep.step (c_call rfl wBet4_isf29 ⟨_, _, rfl, (Sees.of rfl), rfl, rfl⟩ (ofB_spec _ hxr)) rfl rfl rfl rfl) ?_
          refine scons (CStep.step (PStep.c (p_move (y := .val _) rfl (Sees.of rfl) rfl)) rfl rfl rfl rfl) ?_
          refine scons (CStep.step (PStep.c (p_eql rfl (Sees.of rfl) (Sees.of rfl))) rfl rfl rfl rfl) ?_
          refine snil ?_
          refine f_cond rfl ?_ ?_
          · intro hc7
            try simp only [bs] at hc7
            refine f_exit ?_
            show AWs _ _ _ _ _
            refine f_region ?_
            refine scons (CStep.step (PStep.c (p_move (y := .val _) rfl (Sees.of rfl) rfl)) rfl rfl rfl rfl) ?_
            refine scons (CStep.step (PStep.c (p_add rfl (Sees.of rfl) (Sees.of rfl) (by omega))) rfl rfl rfl rfl) ?_
            refine scons (CStep.step (PStep.c (p_assign (y := .val _) rfl (Sees.of rfl) rfl)) rfl rfl rfl rfl) ?_
            refine snil ?_
            refine f_back ⟨(i + 1, u, out), ?_, ?_, le_ofL ⟨rfl, rfl, rfl, rfl, rfl, rfl, trivial⟩ rfl⟩
            · exact hI.skip (by omega) hxe (.inl hc7)
            · show _ - (i + 1) < _ - i
              omega
          · intro hc7
            try simp only [bs] at hc7
            refine f_skip ?_
            refine f_seq ?_
            refine f_seq ?_
            refine f_region ?_
            refine scons (CStep.step (PStep.c (p_move (y := .row _ _) rfl (Sees.of rfl) rfl)) rfl rfl rfl rfl) ?_
            refine scons (CStep.step (PStep.c (p_move (y := .val _) rfl (Sees.of rfl) rfl)) rfl rfl rfl rfl) ?_
            refine scons (CStep.step (PStep.c (p_neg rfl (Sees.of rfl) (by omega))) rfl rfl rfl rfl) ?_
            refine scons (CStep.step (c_callS (q := true) rfl wBet4_isf78 (has_spec out _) (sa_cons (sh_row (Sees.of rfl) rfl) (sa_cons (sh_of (Sees.of rfl) rfl) (sa_nil))) rfl) rfl rfl rfl rfl) ?_
            refine snil ?_
            refine f_cond rfl ?_ ?_
            · intro hc8
              try simp only [bs] at hc8
              refine f_seq ?_
              refine f_region ?_
              refine scons (CStep.step (PStep.c (p_assign (y := .emp) rfl (Sees.of rfl) rfl)) rfl rfl rfl rfl) ?_
              refine scons (CStep.step (PStep.c (p_assign (y := .val _) rfl (Sees.of rfl) rfl)) rfl rfl rfl rfl) ?_
              refine snil ?_
              refine f_ret ?_
              refine ends_ret (res_eq (res2 rfl (res_tmp rfl (Sees.emp rfl 1 di 0)) (res_tmp rfl (Sees.of rfl))) ?_)
              rw [Sp.res2_none (by simpa using hc1) (hI.none (by omega) hxe hc7 (by simpa using hc8))]
            · intro hc8
              try simp only [bs] at hc8
              refine f_skip ?_
              refine f_seq ?_
              refine f_region ?_
              refine scons (CStep.step (PStep.c (p_move (y := .row _ _) rfl (Sees.of rfl) rfl)) rfl rfl rfl rfl) ?_
              refine scons (CStep.step (PStep.c (p_move (y := .val _) rfl (Sees.of rfl) rfl)) rfl rfl rfl rfl) ?_
              refine scons (CStep.step (c_callS (q := true) rfl wBet4_isf78 (has_spec out _) (sa_cons (sh_row (Sees.of rfl) rfl) (sa_cons (sh_of (Sees.of rfl) rfl) (sa_nil))) rfl) rfl rfl rfl rfl) ?_
              refine scons (CStep.step (PStep.c (p_not rfl (Sees.of rfl))) rfl rfl rfl rfl) ?_
              refine snil ?_
              refine f_cond rfl ?_ ?_
              · intro hc9
                try simp only [bs] at hc9
                refine f_region ?_
                refine scons (CStep.step (PStep.c (p_move (y := .row _ _) rfl (Sees.of rfl) rfl)) rfl rfl rfl rfl) ?_
                refine scons (CStep.step (PStep.c (p_move (y := .val _) rfl (Sees.of rfl) rfl)) rfl rfl rfl rfl) ?_
                refine scons (CStep.step (c_buildSlice (f := di) (za := 0) (xs := [.tmp 59]) rfl rfl wBet4_isl33 wBet4_siz3 wBet4_zer3 rfl rfl ⟨_, _, rfl, (Sees.of rfl), rfl, rfl, rfl⟩) rfl rfl rfl rfl) ?_
                refine scons (r_appendR (ob := 30000) rfl wBet4_isl33 wBet4_siz3 wBet4_byt3 wBet4_zer3 rfl rfl (Sees.of rfl) rfl (Sees.of rfl) (by have h1 := hI.2.2.1; have h2 := hI.1; simp only [List.length_cons, List.length_nil, List.length_append] at *; omega) (by have h1 := hI.2.2.1; have h2 := hI.1; simp only [List.length_cons, List.length_nil, List.length_append] at *; omega) rfl rfl rfl rfl rfl) ?_
                refine scons (CStep.step (PStep.c (p_assign (y := .row _ _) rfl (Sees.of rfl) rfl)) rfl rfl rfl rfl) ?_
                refine snil ?_
                refine f_nil ?_
                show AWs _ _ _ _ _
                refine f_region ?_
                refine scons (CStep.step (PStep.c (p_move (y := .val _) rfl (Sees.of rfl) rfl)) rfl rfl rfl rfl) ?_
                refine scons (CStep.step (PStep.c (p_add rfl (Sees.of rfl) (Sees.of rfl) (by omega))) rfl rfl rfl rfl) ?_
                refine scons (CStep.step (PStep.c (p_assign (y := .val _) rfl (Sees.of rfl) rfl)) rfl rfl rfl rfl) ?_
                refine snil ?_
                refine f_back ⟨(i + 1, u + 1, out ++ [(b.getD ((i : Int) - a.length).toNat 0)]), ?_, ?_, le_ofL ⟨rfl, rfl, rfl, rfl, rfl, rfl, trivial⟩ rfl⟩
                · exact hI.add (by omega) hxe hxr hx0 hc7 (by simpa using hc8) (by simpa using hc9)
                · show _ - (i + 1) < _ - i
                  omega
              · intro hc9
                try simp only [bs] at hc9
                refine f_skip ?_
                refine f_nil ?_
                show AWs _ _ _ _ _
                refine f_region ?_
                refine scons (CStep.step (PStep.c (p_move (y := .val _) rfl (Sees.of rfl) rfl)) rfl rfl rfl rfl) ?_
                refine scons (CStep.step (PStep.c (p_add rfl (Sees.of rfl) (Sees.of rfl) (by omega))) rfl rfl rfl rfl) ?_
                refine scons (CStep.step (PStep.c (p_assign (y := .val _) rfl (Sees.of rfl) rfl)) rfl rfl rfl rfl) ?_
                refine snil ?_
                refine f_back ⟨(i + 1, u, out), ?_, ?_, le_ofL ⟨rfl, rfl, rfl, rfl, rfl, rfl, trivial⟩ rfl⟩
                · exact hI.skip (by omega) hxe (.inr (by simpa using hc9))
                · show _ - (i + 1) < _ - i
                  omega
      · intro hc2
        try simp only [bs] at hc2
        refine f_exit ?_
        show AWs _ _ _ _ _
        refine f_seq ?_
        refine f_le (GLe.le (g_freeze (k := 8) (o1 := 30000) rfl rfl rfl rfl)) ?_ (by simp)
        refine f_region ?_
        refine scons (CStep.step (PStep.c (p_move (y := .val _) rfl (Sees.of rfl) rfl)) rfl rfl rfl rfl) ?_
        refine scons (CStep.step (c_call rfl wBet4_isf73 ⟨_, _, rfl, (Sees.of rfl), rfl, rfl⟩ (sortedB_spec out (by have := hI.2.2.1; have := hI.1; rw [List.length_append] at this; omega) hI.2.2.2.1)) rfl rfl rfl rfl) ?_
        refine scons (CStep.step (PStep.c (p_assign (y := .val _) rfl (Sees.of rfl) rfl)) rfl rfl rfl rfl) ?_
        refine scons (CStep.step (PStep.c (p_assign (y := .val _) rfl (Sees.of rfl) rfl)) rfl rfl rfl rfl) ?_
        refine snil ?_
        refine f_ret ?_
        refine ends_ret (res_eq (res2 rfl (res_tmp rfl (Sees.of rfl)) (res_tmp rfl (Sees.of rfl))) ?_)
        rw [Sp.res2_some (by simpa using hc1) (hI.fin (by omega))]

set_option maxHeartbeats 1000000 in
theorem resolutionsR_spec (n : Nat) (hn : n ≤ 1000) (gs : List (List Int)) (hg : ∀ c ∈ gs, Sp.Okc n c) (hgl : gs.length ≤ 100000) (l : List Sp.Rs) :
    Spec Go.Proofs.Try.prog 84 [iv n, .val (intss gs), .val (chos l)] (two (intss (Sp.resR n gs l).1) (fault (Sp.resR n gs l).2.1 (Sp.resR n gs l).2.2)) := by
  refine spec_of' Go.Proofs.Try.func84 rfl Go.Proofs.Try.ntmps84 rfl ?_
  refine f_seq ?_
  refine f_wf (.tmp 2) rfl (fun hwf => ?_) (by simp)
  have hlen : l.length ≤ 140737488355328 := hwf.1
  clear hwf
  refine f_region ?_
  refine scons (CStep.step (PStep.c (p_assign (y := .emp) rfl (Sees.of rfl) rfl)) rfl rfl rfl rfl) ?_
  refine scons (r_alloc (ob := 10007) rfl wBet4_zer26 rfl rfl rfl rfl rfl rfl) ?_
  refine snil ?_
  refine f_seq ?_
  refine f_seq ?_
  refine f_region ?_
  refine scons (CStep.step (PStep.c (p_move (y := .val _) rfl (Sees.of rfl) rfl)) rfl rfl rfl rfl) ?_
  refine scons (CStep.step (PStep.c (p_len rfl wBet4_isl63 (Sees.of rfl))) rfl rfl rfl rfl) ?_
  refine scons (CStep.step (PStep.c (p_gtr rfl (Sees.of rfl) (Sees.of rfl))) rfl rfl rfl rfl) ?_
  refine snil ?_
  refine f_cond rfl ?_ ?_
  · intro hc1
    try simp only [bs] at hc1
    refine f_seq ?_
    refine f_region ?_
    refine scons (CStep.step (PStep.c (p_build rfl wBet4_plc26 wBet4_zer26 (by decide) wBet4_zch26 ⟨_, _, _, rfl, rfl, rfl, (Sees.of rfl), ⟨_, _, _, rfl, rfl, rfl, (Sees.of rfl), rfl⟩⟩ rfl)) rfl rfl rfl rfl) ?_
    refine scons (CStep.step (PStep.c (p_assign (y := .emp) rfl (Sees.of rfl) rfl)) rfl rfl rfl rfl) ?_
    refine scons (r_storeS rfl wBet4_siz26 rfl rfl rfl (Sees.of rfl) rfl (Sees.of rfl) rfl rfl rfl rfl) ?_
    refine snil ?_
    refine f_ret ?_
    refine ends_ret (res_eq (res2 rfl (res_tmp rfl (Sees.emp rfl 1 ints [])) (res_cell (by rfl) rfl rfl wBet4_agg26 wBet4_siz26 rfl rfl)) ?_)
    rw [Sp.resR, if_pos (by omega)]
    all_goals rfl
  · intro hc1
    try simp only [bs] at hc1
    refine f_skip ?_
    refine f_seq ?_
    refine f_region ?_
    refine scons (r_buildRow (f := ints) (za := []) (xs := []) (by_ := 24) (ob := 30000) rfl rfl wBet4_isl37 wBet4_siz33 wBet4_zer33 rfl rfl (by decide) rfl rfl rfl rfl rfl rfl) ?_
    refine scons (CStep.step (PStep.c (p_move (y := .val _) rfl (Sees.of rfl) rfl)) rfl rfl rfl rfl) ?_
    refine scons (r_appendR (ob := 30000) rfl wBet4_isl37 wBet4_siz33 wBet4_byt33 wBet4_zer33 rfl rfl (Sees.of rfl) rfl (Sees.of rfl) (by simp only [List.length_cons, List.length_nil, List.length_append]; omega) (by simp only [List.length_cons, List.length_nil, List.length_append]; omega) rfl rfl rfl rfl rfl) ?_
    refine scons (CStep.step (PStep.c (p_assign (y := .row _ _) rfl (Sees.of rfl) rfl)) rfl rfl rfl rfl) ?_
    refine snil ?_
    refine f_seq ?_
    refine f_seq ?_
    refine f_region ?_
    refine scons (CStep.step (PStep.c (p_assign (y := .val _) rfl (Sees.of rfl) rfl)) rfl rfl rfl rfl) ?_
    refine snil ?_
    refine f_block ?_
    refine f_loop (α := Nat × Nat) (fun (i, u) => i ≤ l.length ∧ Sp.resF n gs 0 l = Sp.resF n (Sp.resTo n gs l i) i (l.drop i)) (fun (i, u) => [(9, iv i), (8, .row 30000 u), (30000, .arr u 33 1 24 ints [] (Sp.resTo n gs l i)), (0, iv n), (1, .val (intss gs)), (2, .val (chos l)), (7, .ref 10007 0 0), (10007, .box 0 (.ccons (iv 0) (.ccons (iv 0) .cnil)))]) (fun (i, u) => l.length - i) (0, 1) ?_ ?_ ?_
    · exact ⟨Nat.zero_le _, rfl⟩
    · exact le_ofL ⟨rfl, rfl, rfl, rfl, rfl, rfl, rfl, rfl, trivial⟩ rfl
    · rintro ⟨i, u⟩ ⟨hi, hf⟩
      have hi : i ≤ l.length := hi
      have hf : Sp.resF n gs 0 l = Sp.resF n (Sp.resTo n gs l i) i (l.drop i) := hf
      refine f_seq ?_
      refine f_seq ?_
      refine f_region ?_
      refine scons (CStep.step (PStep.c (p_move (y := .val _) rfl (Sees.of rfl) rfl)) rfl rfl rfl rfl) ?_
      refine scons (CStep.step (PStep.c (p_move (y := .val _) rfl (Sees.of rfl) rfl)) rfl rfl rfl rfl) ?_
      refine scons (CStep.step (PStep.c (p_len rfl wBet4_isl63 (Sees.of rfl))) rfl rfl rfl rfl) ?_
      refine scons (CStep.step (PStep.c (p_lss rfl (Sees.of rfl) (Sees.of rfl))) rfl rfl rfl rfl) ?_
      refine snil ?_
      refine f_cond rfl ?_ ?_
      · intro hc2
        try simp only [bs] at hc2
        refine f_skip ?_
        refine f_seq ?_
        refine f_block ?_
        refine f_seq ?_
        refine f_seq ?_
        have hrl := Sp.resTo_len (n := n) (g := gs) (l := l) i (by omega)
        have hrk := Sp.resTo_okc (k := n) (l := l) hg i (by omega)
        refine f_region ?_
        refine scons (CStep.step (PStep.c (p_move (y := .val _) rfl (Sees.of rfl) rfl)) rfl rfl rfl rfl) ?_
        refine scons (CStep.step (PStep.c (p_move (y := .val _) rfl (Sees.of rfl) rfl)) rfl rfl rfl rfl) ?_
        refine scons (CStep.step (PStep.c ((by first | exact p_indexN rfl wBet4_isl63 wBet4_siz171 (Sees.of rfl) (Sees.of rfl) (by omega) | exact p_index rfl wBet4_isl63 wBet4_siz171 (Sees.of rfl) (Sees.of rfl) (by omega) (by omega)))) rfl rfl rfl rfl) ?_
        refine scons (CStep.step (PStep.c (p_fieldAddr rfl wBet4_fld171_0 wBet4_siz3 (by decide) (Sees.of rfl) rfl rfl)) rfl rfl rfl rfl) ?_
        refine scons (CStep.step (PStep.c (p_load rfl wBet4_agg3 (Sees.of rfl) rfl)) rfl rfl rfl rfl) ?_
        refine scons (CStep.step (PStep.c (p_lss rfl (Sees.of rfl) (Sees.of rfl))) rfl rfl rfl rfl) ?_
        refine scons (CStep.step (PStep.c (p_move (y := .val _) rfl (Sees.of rfl) rfl)) rfl rfl rfl rfl) ?_
        refine scons (CStep.guard rfl rfl rfl (fun hg0 => PStep.c (p_move (y := .val _) rfl (Sees.of rfl) rfl)) rfl rfl rfl rfl rfl) ?_
        refine scons (CStep.guard rfl rfl rfl (fun hg0 => PStep.c (p_move (y := .val _) rfl (Sees.of rfl) rfl)) rfl rfl rfl rfl rfl) ?_
        refine scons (CStep.guard rfl rfl rfl (fun hg0 => by have hp0 := hg0; (try simp only [bs] at hp0); exact PStep.c ((by first | exact p_indexN rfl wBet4_isl63 wBet4_siz171 (Sees.gv' rfl hg0) (Sees.gv' rfl hg0) (by omega) | exact p_index rfl wBet4_isl63 wBet4_siz171 (Sees.gv' rfl hg0) (Sees.gv' rfl hg0) (by omega) (by omega)))) rfl rfl rfl rfl rfl) ?_
        refine scons (CStep.guard rfl rfl rfl (fun hg0 => PStep.c (p_fieldAddr rfl wBet4_fld171_1 wBet4_siz3 (by decide) (Sees.gv' rfl hg0) rfl rfl)) rfl rfl rfl rfl rfl) ?_
        refine scons (CStep.guard rfl rfl rfl (fun hg0 => PStep.c (p_load rfl wBet4_agg3 (Sees.gv' rfl hg0) rfl)) rfl rfl rfl rfl rfl) ?_
        refine scons (CStep.guard rfl rfl rfl (fun hg0 => PStep.c (p_lss rfl (Sees.gv' rfl hg0) (Sees.of rfl))) rfl rfl rfl rfl rfl) ?_
        refine scons (CStep.step (PStep.c (p_or rfl (Sees.of rfl) (Sees.of rfl) (fun h => Sees.gv' rfl (beq_of_eq h)))) rfl rfl rfl rfl) ?_
        refine scons (CStep.step (PStep.c (p_move (y := .val _) rfl (Sees.of rfl) rfl)) rfl rfl rfl rfl) ?_
        refine scons (CStep.guard rfl rfl rfl (fun hg0 => PStep.c (p_move (y := .val _) rfl (Sees.of rfl) rfl)) rfl rfl rfl rfl rfl) ?_
        refine scons (CStep.guard rfl rfl rfl (fun hg0 => PStep.c (p_move (y := .val _) rfl (Sees.of rfl) rfl)) rfl rfl rfl rfl rfl) ?_
        refine scons (CStep.guard rfl rfl rfl (fun hg0 => by have hp0 := hg0; (try simp only [bs] at hp0); exact PStep.c ((by first | exact p_indexN rfl wBet4_isl63 wBet4_siz171 (Sees.gv' rfl hg0) (Sees.gv' rfl hg0) (by omega) | exact p_index rfl wBet4_isl63 wBet4_siz171 (Sees.gv' rfl hg0) (Sees.gv' rfl hg0) (by omega) (by omega)))) rfl rfl rfl rfl rfl) ?_
        refine scons (CStep.guard rfl rfl rfl (fun hg0 => PStep.c (p_fieldAddr rfl wBet4_fld171_0 wBet4_siz3 (by decide) (Sees.gv' rfl hg0) rfl rfl)) rfl rfl rfl rfl rfl) ?_
        refine scons (CStep.guard rfl rfl rfl (fun hg0 => PStep.c (p_load rfl wBet4_agg3 (Sees.gv' rfl hg0) rfl)) rfl rfl rfl rfl rfl) ?_
        refine scons (CStep.guard rfl rfl rfl (fun hg0 => PStep.c (p_move (y := .row _ _) rfl (Sees.of rfl) rfl)) rfl rfl rfl rfl rfl) ?_
        refine scons (CStep.guard rfl rfl rfl (fun hg0 => PStep.c (p_lenR rfl wBet4_isl37 (Sees.gv' rfl hg0) rfl)) rfl rfl rfl rfl rfl) ?_
        refine scons (CStep.guard rfl rfl rfl (fun hg0 => PStep.c (p_geq rfl (Sees.gv' rfl hg0) (Sees.gv' rfl hg0))) rfl rfl rfl rfl rfl) ?_
        refine scons (CStep.step (PStep.c (p_or rfl (Sees.of rfl) (Sees.of rfl) (fun h => Sees.gv' rfl (beq_of_eq h)))) rfl rfl rfl rfl) ?_
        refine scons (CStep.step (PStep.c (p_move (y := .val _) rfl (Sees.of rfl) rfl)) rfl rfl rfl rfl) ?_
        refine scons (CStep.guard rfl rfl rfl (fun hg0 => PStep.c (p_move (y := .val _) rfl (Sees.of rfl) rfl)) rfl rfl rfl rfl rfl) ?_
        refine scons (CStep.guard rfl rfl rfl (fun hg0 => PStep.c (p_move (y := .val _) rfl (Sees.of rfl) rfl)) rfl rfl rfl rfl rfl) ?_
        refine scons (CStep.guard rfl rfl rfl (fun hg0 => by have hp0 := hg0; (try simp only [bs] at hp0); exact PStep.c ((by first | exact p_indexN rfl wBet4_isl63 wBet4_siz171 (Sees.gv' rfl hg0) (Sees.gv' rfl hg0) (by omega) | exact p_index rfl wBet4_isl63 wBet4_siz171 (Sees.gv' rfl hg0) (Sees.gv' rfl hg0) (by omega) (by omega)))) rfl rfl rfl rfl rfl) ?_
        refine scons (CStep.guard rfl rfl rfl (fun hg0 => PStep.c (p_fieldAddr rfl wBet4_fld171_1 wBet4_siz3 (by decide) (Sees.gv' rfl hg0) rfl rfl)) rfl rfl rfl rfl rfl) ?_
        refine scons (CStep.guard rfl rfl rfl (fun hg0 => PStep.c (p_load rfl wBet4_agg3 (Sees.gv' rfl hg0) rfl)) rfl rfl rfl rfl rfl) ?_
        refine scons (CStep.guard rfl rfl rfl (fun hg0 => PStep.c (p_move (y := .row _ _) rfl (Sees.of rfl) rfl)) rfl rfl rfl rfl rfl) ?_
        refine scons (CStep.guard rfl rfl rfl (fun hg0 => PStep.c (p_lenR rfl wBet4_isl37 (Sees.gv' rfl hg0) rfl)) rfl rfl rfl rfl rfl) ?_
        refine scons (CStep.guard rfl rfl rfl (fun hg0 => PStep.c (p_geq rfl (Sees.gv' rfl hg0) (Sees.gv' rfl hg0))) rfl rfl rfl rfl rfl) ?_
        refine scons (CStep.step (PStep.c (p_or rfl (Sees.of rfl) (Sees.of rfl) (fun h => Sees.gv' rfl (beq_of_eq h)))) rfl rfl rfl rfl) ?_
        refine scons (CStep.step (PStep.c (p_move (y := .val _) rfl (Sees.of rfl) rfl)) rfl rfl rfl rfl) ?_
        refine scons (CStep.guard rfl rfl rfl (fun hg0 => PStep.c (p_move (y := .val _) rfl (Sees.of rfl) rfl)) rfl rfl rfl rfl rfl) ?_
        refine scons (CStep.guard rfl rfl rfl (fun hg0 => PStep.c (p_move (y := .val _) rfl (Sees.of rfl) rfl)) rfl rfl rfl rfl rfl) ?_
        refine scons (CStep.guard rfl rfl rfl (fun hg0 => by have hp0 := hg0; (try simp only [bs] at hp0); exact PStep.c ((by first | exact p_indexN rfl wBet4_isl63 wBet4_siz171 (Sees.gv' rfl hg0) (Sees.gv' rfl hg0) (by omega) | exact p_index rfl wBet4_isl63 wBet4_siz171 (Sees.gv' rfl hg0) (Sees.gv' rfl hg0) (by omega) (by omega)))) rfl rfl rfl rfl rfl) ?_
        refine scons (CStep.guard rfl rfl rfl (fun hg0 => PStep.c (p_fieldAddr rfl wBet4_fld171_2 wBet4_siz3 (by decide) (Sees.gv' rfl hg0) rfl rfl)) rfl rfl rfl rfl rfl) ?_
        refine scons (CStep.guard rfl rfl rfl (fun hg0 => PStep.c (p_load rfl wBet4_agg3 (Sees.gv' rfl hg0) rfl)) rfl rfl rfl rfl rfl) ?_
        refine scons (CStep.guard rfl rfl rfl (fun hg0 => PStep.c (p_lss rfl (Sees.gv' rfl hg0) (Sees.of rfl))) rfl rfl rfl rfl rfl) ?_
        refine scons (CStep.step (PStep.c (p_or rfl (Sees.of rfl) (Sees.of rfl) (fun h => Sees.gv' rfl (beq_of_eq h)))) rfl rfl rfl rfl) ?_
        refine scons (CStep.step (PStep.c (p_move (y := .val _) rfl (Sees.of rfl) rfl)) rfl rfl rfl rfl) ?_
        refine scons (CStep.guard rfl rfl rfl (fun hg0 => PStep.c (p_move (y := .val _) rfl (Sees.of rfl) rfl)) rfl rfl rfl rfl rfl) ?_
        refine scons (CStep.guard rfl rfl rfl (fun hg0 => PStep.c (p_move (y := .val _) rfl (Sees.of rfl) rfl)) rfl rfl rfl rfl rfl) ?_
        refine scons (CStep.guard rfl rfl rfl (fun hg0 => by have hp0 := hg0; (try simp only [bs] at hp0); exact PStep.c ((by first | exact p_indexN rfl wBet4_isl63 wBet4_siz171 (Sees.gv' rfl hg0) (Sees.gv' rfl hg0) (by omega) | exact p_index rfl wBet4_isl63 wBet4_siz171 (Sees.gv' rfl hg0) (Sees.gv' rfl hg0) (by omega) (by omega)))) rfl rfl rfl rfl rfl) ?_
        refine scons (CStep.guard rfl rfl rfl (fun hg0 => PStep.c (p_fieldAddr rfl wBet4_fld171_2 wBet4_siz3 (by decide) (Sees.gv' rfl hg0) rfl rfl)) rfl rfl rfl rfl rfl) ?_
        refine scons (CStep.guard rfl rfl rfl (fun hg0 => PStep.c (p_load rfl wBet4_agg3 (Sees.gv' rfl hg0) rfl)) rfl rfl rfl rfl rfl) ?_
        refine scons (CStep.guard rfl rfl rfl (fun hg0 => PStep.c (p_move (y := .val _) rfl (Sees.of rfl) rfl)) rfl rfl rfl rfl rfl) ?_
        refine scons (CStep.guard rfl rfl rfl (fun hg0 => PStep.c (p_gtr rfl (Sees.gv' rfl hg0) (Sees.gv' rfl hg0))) rfl rfl rfl rfl rfl) ?_
        refine scons (CStep.step (PStep.c (p_or rfl (Sees.of rfl) (Sees.of rfl) (fun h => Sees.gv' rfl (beq_of_eq h)))) rfl rfl rfl rfl) ?_
        refine snil ?_
        refine f_cond rfl ?_ ?_
        · intro hc3
          try simp only [bs] at hc3
          refine f_seq ?_
          refine f_region ?_
          refine scons (CStep.step (PStep.c (p_move (y := .val _) rfl (Sees.of rfl) rfl)) rfl rfl rfl rfl) ?_
          refine scons (CStep.step (PStep.c (p_build rfl wBet4_plc26 wBet4_zer26 (by decide) wBet4_zch26 ⟨_, _, _, rfl, rfl, rfl, (Sees.of rfl), ⟨_, _, _, rfl, rfl, rfl, (Sees.of rfl), rfl⟩⟩ rfl)) rfl rfl rfl rfl) ?_
          refine scons (CStep.step (PStep.c (p_assign (y := .emp) rfl (Sees.of rfl) rfl)) rfl rfl rfl rfl) ?_
          refine scons (r_storeS rfl wBet4_siz26 rfl rfl rfl (Sees.of rfl) rfl (Sees.of rfl) rfl rfl rfl rfl) ?_
          refine snil ?_
          refine f_ret ?_
          refine ends_ret (res_eq (res2 rfl (res_tmp rfl (Sees.emp rfl 1 ints [])) (res_cell (by rfl) rfl rfl wBet4_agg26 wBet4_siz26 rfl rfl)) ?_)
          have hbad : Sp.resOne (Sp.resTo n gs l i) (l.getD i (0, 0, 0)) n = ([], 3) := by rw [Sp.resOne, if_pos (by omega)]
          rw [Sp.resR, if_neg (by omega), hf, Sp.resF_bad (by omega) (by rw [hbad]; decide), hbad, if_pos (show (3 : Int) ≠ 0 by decide)]
          all_goals rfl
        · intro hc3
          try simp only [bs] at hc3
          have hin : ¬ ((l.getD i (0, 0, 0)).1 < 0 ∨ ((Sp.resTo n gs l i).length : Int) ≤ (l.getD i (0, 0, 0)).1 ∨ (l.getD i (0, 0, 0)).2.1 < 0 ∨ ((Sp.resTo n gs l i).length : Int) ≤ (l.getD i (0, 0, 0)).2.1 ∨ (l.getD i (0, 0, 0)).2.2 < 1 ∨ (n : Int) < (l.getD i (0, 0, 0)).2.2) := by omega
          have hL := hrk _ (Sp.getD_mem (Sp.resTo n gs l i) (l.getD i (0, 0, 0)).1.toNat [] (by omega))
          have hR := hrk _ (Sp.getD_mem (Sp.resTo n gs l i) (l.getD i (0, 0, 0)).2.1.toNat [] (by omega))
          have hl1 := Sp.okc_len hL
          have hl2 := Sp.okc_len hR
          have hone : Sp.resOne (Sp.resTo n gs l i) (l.getD i (0, 0, 0)) n = Sp.res2 ((Sp.resTo n gs l i).getD (l.getD i (0, 0, 0)).1.toNat []) ((Sp.resTo n gs l i).getD (l.getD i (0, 0, 0)).2.1.toNat []) (l.getD i (0, 0, 0)).2.2 := by rw [Sp.resOne, if_neg hin]
          refine f_skip ?_
          refine f_seq ?_
          refine f_draw wBet4_mix (by kernel_rfl) ?_
          refine dcons (CStep.step (PStep.c (p_move (y := .row _ _) rfl (Sees.of rfl) rfl)) rfl rfl rfl rfl) ?_
          refine dcons (CStep.step (PStep.c (p_move (y := .val _) rfl (Sees.of rfl) rfl)) rfl rfl rfl rfl) ?_
          refine dcons (CStep.step (PStep.c (p_move (y := .val _) rfl (Sees.of rfl) rfl)) rfl rfl rfl rfl) ?_
          refine dcons (CStep.step (PStep.c ((by first | exact p_indexN rfl wBet4_isl63 wBet4_siz171 (Sees.of rfl) (Sees.of rfl) (by omega) | exact p_index rfl wBet4_isl63 wBet4_siz171 (Sees.of rfl) (Sees.of rfl) (by omega) (by omega)))) rfl rfl rfl rfl) ?_
          refine dcons (CStep.step (PStep.c (p_fieldAddr rfl wBet4_fld171_0 wBet4_siz3 (by decide) (Sees.of rfl) rfl rfl)) rfl rfl rfl rfl) ?_
          refine dcons (CStep.step (PStep.c (p_load rfl wBet4_agg3 (Sees.of rfl) rfl)) rfl rfl rfl rfl) ?_
          refine dcons (CStep.step (PStep.c ((by first | exact p_indexR rfl wBet4_isl37 wBet4_siz33 (Sees.of rfl) rfl (Sees.of rfl) (by omega) | exact p_indexRZ rfl wBet4_isl37 wBet4_siz33 (Sees.of rfl) rfl (Sees.of rfl) (by omega) (by omega)))) rfl rfl rfl rfl) ?_
          refine dcons (CStep.step (PStep.c (p_loadE rfl wBet4_agg33 (Sees.of rfl) rfl (by omega) (fun _ => rfl))) rfl rfl rfl rfl) ?_
          refine dcons (CStep.step (PStep.c (p_move (y := .row _ _) rfl (Sees.of rfl) rfl)) rfl rfl rfl rfl) ?_
          refine dcons (CStep.step (PStep.c (p_move (y := .val _) rfl (Sees.of rfl) rfl)) rfl rfl rfl rfl) ?_
          refine dcons (CStep.step (PStep.c (p_move (y := .val _) rfl (Sees.of rfl) rfl)) rfl rfl rfl rfl) ?_
          refine dcons (CStep.step (PStep.c ((by first | exact p_indexN rfl wBet4_isl63 wBet4_siz171 (Sees.of rfl) (Sees.of rfl) (by omega) | exact p_index rfl wBet4_isl63 wBet4_siz171 (Sees.of rfl) (Sees.of rfl) (by omega) (by omega)))) rfl rfl rfl rfl) ?_
          refine dcons (CStep.step (PStep.c (p_fieldAddr rfl wBet4_fld171_1 wBet4_siz3 (by decide) (Sees.of rfl) rfl rfl)) rfl rfl rfl rfl) ?_
          refine dcons (CStep.step (PStep.c (p_load rfl wBet4_agg3 (Sees.of rfl) rfl)) rfl rfl rfl rfl) ?_
          refine dcons (CStep.step (PStep.c ((by first | exact p_indexR rfl wBet4_isl37 wBet4_siz33 (Sees.of rfl) rfl (Sees.of rfl) (by omega) | exact p_indexRZ rfl wBet4_isl37 wBet4_siz33 (Sees.of rfl) rfl (Sees.of rfl) (by omega) (by omega)))) rfl rfl rfl rfl) ?_
          refine dcons (CStep.step (PStep.c (p_loadE rfl wBet4_agg33 (Sees.of rfl) rfl (by omega) (fun _ => rfl))) rfl rfl rfl rfl) ?_
          refine dcons (CStep.step (PStep.c (p_move (y := .val _) rfl (Sees.of rfl) rfl)) rfl rfl rfl rfl) ?_
          refine dcons (CStep.step (PStep.c (p_move (y := .val _) rfl (Sees.of rfl) rfl)) rfl rfl rfl rfl) ?_
          refine dcons (CStep.step (PStep.c ((by first | exact p_indexN rfl wBet4_isl63 wBet4_siz171 (Sees.of rfl) (Sees.of rfl) (by omega) | exact p_index rfl wBet4_isl63 wBet4_siz171 (Sees.of rfl) (Sees.of rfl) (by omega) (by omega)))) rfl rfl rfl rfl) ?_
          refine dcons (CStep.step (PStep.c (p_fieldAddr rfl wBet4_fld171_2 wBet4_siz3 (by decide) (Sees.of rfl) rfl rfl)) rfl rfl rfl rfl) ?_
          refine dcons (CStep.step (PStep.c (p_load rfl wBet4_agg3 (Sees.of rfl) rfl)) rfl rfl rfl rfl) ?_
          refine dcons (CStep.step (c_call rfl wBet4_isf130 ⟨_, _, rfl, (Sees.of rfl), rfl, ⟨_, _, rfl, (Sees.of rfl), rfl, ⟨_, _, rfl, (Sees.of rfl), rfl, rfl⟩⟩⟩ (resolvedR_spec ((Sp.resTo n gs l i).getD (l.getD i (0, 0, 0)).1.toNat []) ((Sp.resTo n gs l i).getD (l.getD i (0, 0, 0)).2.1.toNat []) (l.getD i (0, 0, 0)).2.2 (by omega) (fun x hx => (List.mem_append.1 hx).elim (fun h => by have := hL.1 x h; omega) (fun h => by have := hR.1 x h; omega)) (by omega))) rfl rfl rfl rfl) ?_
          refine dcons (CStep.step (PStep.c (p_move (y := .val _) rfl (Sees.of rfl) rfl)) rfl rfl rfl rfl) ?_
          refine dcons (CStep.step (PStep.c (p_extract rfl (Sees.of rfl) rfl)) rfl rfl rfl rfl) ?_
          refine dcons (CStep.step (PStep.c (p_extract rfl (Sees.of rfl) rfl)) rfl rfl rfl rfl) ?_
          refine dcons (CStep.step (PStep.c (p_assign (y := .val _) rfl (Sees.of rfl) rfl)) rfl rfl rfl rfl) ?_
          refine dcons (CStep.step (PStep.c (p_assign (y := .val _) rfl (Sees.of rfl) rfl)) rfl rfl rfl rfl) ?_
          refine dnil (by kernel_rfl) ?_
          refine f_seq ?_
          refine f_seq ?_
          refine f_region ?_
          refine scons (CStep.step (PStep.c (p_move (y := .val _) rfl (Sees.of rfl) rfl)) rfl rfl rfl rfl) ?_
          refine scons (CStep.step (PStep.c (p_neq rfl (Sees.of rfl) (Sees.of rfl))) rfl rfl rfl rfl) ?_
          refine snil ?_
          refine f_cond rfl ?_ ?_
          · intro hc4
            try simp only [bs] at hc4
            refine f_seq ?_
            refine f_region ?_
            refine scons (CStep.step (PStep.c (p_move (y := .val _) rfl (Sees.of rfl) rfl)) rfl rfl rfl rfl) ?_
            refine scons (CStep.step (PStep.c (p_move (y := .val _) rfl (Sees.of rfl) rfl)) rfl rfl rfl rfl) ?_
            refine scons (CStep.step (PStep.c (p_build rfl wBet4_plc26 wBet4_zer26 (by decide) wBet4_zch26 ⟨_, _, _, rfl, rfl, rfl, (Sees.of rfl), ⟨_, _, _, rfl, rfl, rfl, (Sees.of rfl), rfl⟩⟩ rfl)) rfl rfl rfl rfl) ?_
            refine scons (CStep.step (PStep.c (p_assign (y := .emp) rfl (Sees.of rfl) rfl)) rfl rfl rfl rfl) ?_
            refine scons (r_storeS rfl wBet4_siz26 rfl rfl rfl (Sees.of rfl) rfl (Sees.of rfl) rfl rfl rfl rfl) ?_
            refine snil ?_
            refine f_ret ?_
            refine ends_ret (res_eq (res2 rfl (res_tmp rfl (Sees.emp rfl 1 ints [])) (res_cell (by rfl) rfl rfl wBet4_agg26 wBet4_siz26 rfl rfl)) ?_)
            rw [← hone] at hc4 ⊢
            rw [Sp.resR, if_neg (by omega), hf, Sp.resF_bad (by omega) hc4, if_pos hc4]
            all_goals rfl
          · intro hc4
            try simp only [bs] at hc4
            refine f_skip ?_
            refine f_region ?_
            refine scons (CStep.step (PStep.c (p_move (y := .row _ _) rfl (Sees.of rfl) rfl)) rfl rfl rfl rfl) ?_
            refine scons (CStep.step (PStep.c (p_move (y := .val _) rfl (Sees.of rfl) rfl)) rfl rfl rfl rfl) ?_
            refine scons (CStep.step (c_buildSlice (f := ints) (za := []) (xs := [.tmp 109]) rfl rfl wBet4_isl37 wBet4_siz33 wBet4_zer33 rfl rfl ⟨_, _, rfl, (Sees.of rfl), rfl, rfl, rfl⟩) rfl rfl rfl rfl) ?_
            refine scons (r_appendR (ob := 30000) rfl wBet4_isl37 wBet4_siz33 wBet4_byt33 wBet4_zer33 rfl rfl (Sees.of rfl) rfl (Sees.of rfl) (by simp only [List.length_cons, List.length_nil, List.length_append]; omega) (by simp only [List.length_cons, List.length_nil, List.length_append]; omega) rfl rfl rfl rfl rfl) ?_
            refine scons (CStep.step (PStep.c (p_assign (y := .row _ _) rfl (Sees.of rfl) rfl)) rfl rfl rfl rfl) ?_
            refine snil ?_
            refine f_nil ?_
            show AWs _ _ _ _ _
            refine f_region ?_
            refine scons (CStep.step (PStep.c (p_move (y := .val _) rfl (Sees.of rfl) rfl)) rfl rfl rfl rfl) ?_
            refine scons (CStep.step (PStep.c (p_add rfl (Sees.of rfl) (Sees.of rfl) (by omega))) rfl rfl rfl rfl) ?_
            refine scons (CStep.step (PStep.c (p_assign (y := .val _) rfl (Sees.of rfl) rfl)) rfl rfl rfl rfl) ?_
            refine snil ?_
            refine f_back ⟨(i + 1, u + 1), ?_, ?_, le_ofL ⟨rfl, rfl, (by rw [Sp.resTo_succ (by omega), hone]; rfl), rfl, rfl, rfl, rfl, rfl, trivial⟩ rfl⟩
            · exact ⟨by show i + 1 ≤ _; omega, hf.trans (Sp.resF_step (by omega) (by rw [hone]; exact hc4))⟩
            · show _ - (i + 1) < _ - i
              omega
      · intro hc2
        try simp only [bs] at hc2
        refine f_exit ?_
        show AWs _ _ _ _ _
        refine f_seq ?_
        have hrl := Sp.resTo_len (n := n) (g := gs) (l := l) i (by omega)
        obtain rfl : i = l.length := by omega
        refine f_region ?_
        refine scons (CStep.step (PStep.c (p_move (y := .row _ _) rfl (Sees.of rfl) rfl)) rfl rfl rfl rfl) ?_
        refine scons (CStep.step (PStep.c (p_move (y := .val _) rfl (Sees.of rfl) rfl)) rfl rfl rfl rfl) ?_
        refine scons (CStep.step (PStep.c (p_len rfl wBet4_isl37 (Sees.of rfl))) rfl rfl rfl rfl) ?_
        refine scons (LStep.pre (g_freeze (k := 112) (o1 := 30000) rfl rfl rfl rfl) (CStep.step (PStep.c (p_slice  rfl wBet4_isl37 wBet4_siz33 (Sees.of rfl) (Sees.of rfl) rfl (by omega) (by omega))) rfl rfl rfl rfl)) ?_
        refine scons (CStep.step (PStep.c (p_build rfl wBet4_plc26 wBet4_zer26 (by decide) wBet4_zch26 rfl rfl)) rfl rfl rfl rfl) ?_
        refine scons (CStep.step (PStep.c (p_assign (y := .val _) rfl (Sees.of rfl) rfl)) rfl rfl rfl rfl) ?_
        refine scons (r_storeS rfl wBet4_siz26 rfl rfl rfl (Sees.of rfl) rfl (Sees.of rfl) rfl rfl rfl rfl) ?_
        refine snil ?_
        refine f_ret ?_
        refine ends_ret (res_eq (res2 rfl (res_tmp rfl (Sees.of rfl)) (res_cell (by rfl) rfl rfl wBet4_agg26 wBet4_siz26 rfl rfl)) ?_)
        rw [List.take_of_length_le (by rw [List.length_drop]; exact Nat.le_refl _), Sp.resR, if_neg (by omega), hf, Sp.resF_end (Nat.le_refl _), if_neg (by decide)]
        all_goals rfl

theorem proofFault_spec (n : Int) (a : List (List Int)) (m : Int) (b : List (List Int)) (l : List Sp.Rs) :
    Spec Go.Proofs.Try.prog 34 [.val (cnf n a), .val (cnf m b), .val (chos l)] (fault (Sp.prfW n a m b l).1 (Sp.prfW n a m b l).2) := by
  refine spec_of' Go.Proofs.Try.func34 rfl Go.Proofs.Try.ntmps34 rfl ?_
  refine f_seq ?_
  refine f_region ?_
  refine scons (r_box (ob := 10003) rfl (Sees.of rfl) rfl rfl rfl rfl rfl rfl) ?_
  refine scons (r_box (ob := 10004) rfl (Sees.of rfl) rfl rfl rfl rfl rfl rfl) ?_
  refine scons (r_alloc (ob := 10006) rfl wBet4_zer26 rfl rfl rfl rfl rfl rfl) ?_
  refine snil ?_
  refine f_seq ?_
  refine f_region ?_
  refine scons (CStep.step (PStep.c (p_loadBS rfl wBet4_agg39 wBet4_siz39 (Sees.of rfl) rfl rfl rfl)) rfl rfl rfl rfl) ?_
  refine scons (CStep.step (PStep.c (p_loadBS rfl wBet4_agg39 wBet4_siz39 (Sees.of rfl) rfl rfl rfl)) rfl rfl rfl rfl) ?_
  refine scons (CStep.step (c_call rfl wBet4_isf83 ⟨_, _, rfl, (Sees.of rfl), rfl, ⟨_, _, rfl, (Sees.of rfl), rfl, rfl⟩⟩ (pairWrong_spec n a m b)) rfl rfl rfl rfl) ?_
  refine scons (r_alloc (ob := 10007) rfl wBet4_zer26 rfl rfl rfl rfl rfl rfl) ?_
  refine scons (r_storeS rfl wBet4_siz26 rfl rfl rfl (Sees.of rfl) rfl (Sees.of rfl) rfl rfl rfl rfl) ?_
  refine snil ?_
  refine f_seq ?_
  refine f_seq ?_
  refine f_region ?_
  refine scons (CStep.step (PStep.c (p_fieldRef rfl wBet4_fld26_0 wBet4_siz3 rfl (Sees.of rfl) rfl)) rfl rfl rfl rfl) ?_
  refine scons (CStep.step (PStep.c (p_loadB (y := .val _) rfl wBet4_agg3 (Sees.of rfl) rfl rfl rfl rfl)) rfl rfl rfl rfl) ?_
  refine scons (CStep.step (PStep.c (p_neq rfl (Sees.of rfl) (Sees.of rfl))) rfl rfl rfl rfl) ?_
  refine snil ?_
  refine f_cond rfl ?_ ?_
  · intro hc1
    try simp only [bs] at hc1
    refine f_seq ?_
    refine f_region ?_
    refine scons (CStep.step (PStep.c (p_loadBS rfl wBet4_agg26 wBet4_siz26 (Sees.of rfl) rfl rfl rfl)) rfl rfl rfl rfl) ?_
    refine scons (r_storeS rfl wBet4_siz26 rfl rfl rfl (Sees.of rfl) rfl (Sees.of rfl) rfl rfl rfl rfl) ?_
    refine snil ?_
    refine f_ret ?_
    refine ends_ret (res_eq (res1 rfl (res_cell (by rfl) rfl rfl wBet4_agg26 wBet4_siz26 rfl rfl)) ?_)
    rw [Sp.prfW, if_pos hc1]
    all_goals rfl
  · intro hc1
    try simp only [bs] at hc1
    obtain ⟨k, rfl, rfl, hk, hca, hcb, hlab⟩ := Sp.bet_ok hc1
    have hok : ∀ c ∈ a ++ b, Sp.Okc k c := fun c hc => (List.mem_append.1 hc).elim (Sp.check_okc hca c) (Sp.check_okc hcb c)
    have hab : (a ++ b).length = a.length + b.length := List.length_append
    refine f_skip ?_
    refine f_seq ?_
    refine f_draw wBet4_mix (by kernel_rfl) ?_
    refine dcons (CStep.step (PStep.c (p_fieldRef rfl wBet4_fld39_0 wBet4_siz3 rfl (Sees.of rfl) rfl)) rfl rfl rfl rfl) ?_
    refine dcons (CStep.step (PStep.c (p_loadB (y := .val _) rfl wBet4_agg3 (Sees.of rfl) rfl rfl rfl rfl)) rfl rfl rfl rfl) ?_
    refine dcons (r_buildRow (f := ints) (za := []) (xs := []) (by_ := 24) (ob := 30000) rfl rfl wBet4_isl37 wBet4_siz33 wBet4_zer33 rfl rfl (by decide) rfl rfl rfl rfl rfl rfl) ?_
    refine dcons (CStep.step (PStep.c (p_fieldRef rfl wBet4_fld39_1 wBet4_siz37 rfl (Sees.of rfl) rfl)) rfl rfl rfl rfl) ?_
    refine dcons (CStep.step (PStep.c (p_loadB (y := .val _) rfl wBet4_agg37 (Sees.of rfl) rfl rfl rfl rfl)) rfl rfl rfl rfl) ?_
    refine dcons (r_appendR (ob := 30000) rfl wBet4_isl37 wBet4_siz33 wBet4_byt33 wBet4_zer33 rfl rfl (Sees.of rfl) rfl (Sees.of rfl) (by simp only [List.length_nil]; omega) (by simp only [List.length_nil]; omega) rfl rfl rfl rfl rfl) ?_
    refine dcons (CStep.step (PStep.c (p_fieldRef rfl wBet4_fld39_1 wBet4_siz37 rfl (Sees.of rfl) rfl)) rfl rfl rfl rfl) ?_
    refine dcons (CStep.step (PStep.c (p_loadB (y := .val _) rfl wBet4_agg37 (Sees.of rfl) rfl rfl rfl rfl)) rfl rfl rfl rfl) ?_
    refine dcons (r_appendR (ob := 30000) rfl wBet4_isl37 wBet4_siz33 wBet4_byt33 wBet4_zer33 rfl rfl (Sees.of rfl) rfl (Sees.of rfl) (by simp only [List.length_append, List.length_nil]; omega) (by simp only [List.length_append, List.length_nil]; omega) rfl rfl rfl rfl rfl) ?_
    refine dcons (CStep.step (PStep.c (p_move (y := .val _) rfl (Sees.of rfl) rfl)) rfl rfl rfl rfl) ?_
    refine dcons (LStep.pre (g_freeze (k := 25) (o1 := 30000) rfl rfl rfl rfl) (CStep.step (c_call rfl wBet4_isf84 ⟨_, _, rfl, (Sees.of rfl), rfl, ⟨_, _, rfl, (Sees.of rfl), rfl, ⟨_, _, rfl, (Sees.of rfl), rfl, rfl⟩⟩⟩ (resolutionsR_spec k (by omega) (a ++ b) hok (by omega) l)) rfl rfl rfl rfl)) ?_
    refine dcons (CStep.step (PStep.c (p_move (y := .val _) rfl (Sees.of rfl) rfl)) rfl rfl rfl rfl) ?_
    refine dcons (CStep.step (PStep.c (p_extract rfl (Sees.of rfl) rfl)) rfl rfl rfl rfl) ?_
    refine dcons (CStep.step (PStep.c (p_extract rfl (Sees.of rfl) rfl)) rfl rfl rfl rfl) ?_
    refine dcons (CStep.step (PStep.c (p_assign (y := .val _) rfl (Sees.of rfl) rfl)) rfl rfl rfl rfl) ?_
    refine dcons (r_storeS rfl wBet4_siz26 rfl rfl rfl (Sees.of rfl) rfl (Sees.of rfl) rfl rfl rfl rfl) ?_
    refine dnil (by kernel_rfl) ?_
    refine f_seq ?_
    refine f_seq ?_
    have hrl := Sp.resR_len k (a ++ b) l
    refine f_region ?_
    refine scons (CStep.step (PStep.c (p_fieldRef rfl wBet4_fld26_0 wBet4_siz3 rfl (Sees.of rfl) rfl)) rfl rfl rfl rfl) ?_
    refine scons (CStep.step (PStep.c (p_loadB (y := .val _) rfl wBet4_agg3 (Sees.of rfl) rfl rfl rfl rfl)) rfl rfl rfl rfl) ?_
    refine scons (CStep.step (PStep.c (p_eql rfl (Sees.of rfl) (Sees.of rfl))) rfl rfl rfl rfl) ?_
    refine scons (CStep.step (PStep.c (p_move (y := .val _) rfl (Sees.of rfl) rfl)) rfl rfl rfl rfl) ?_
    refine scons (CStep.guard rfl rfl rfl (fun hg0 => PStep.c (p_move (y := .val _) rfl (Sees.of rfl) rfl)) rfl rfl rfl rfl rfl) ?_
    refine scons (CStep.guard rfl rfl rfl (fun hg0 => PStep.c (p_len rfl wBet4_isl37 (Sees.gv' rfl hg0))) rfl rfl rfl rfl rfl) ?_
    refine scons (CStep.guard rfl rfl rfl (fun hg0 => PStep.c (p_eql rfl (Sees.gv' rfl hg0) (Sees.of rfl))) rfl rfl rfl rfl rfl) ?_
    refine scons (CStep.guard rfl rfl rfl (fun hg0 => PStep.c (p_move (y := .val _) rfl (Sees.gv' rfl hg0) rfl)) rfl rfl rfl rfl rfl) ?_
    refine scons (CStep.guard2 rfl rfl rfl (fun hg1 hg0 => PStep.c (p_move (y := .val _) rfl (Sees.of rfl) rfl)) rfl rfl rfl rfl rfl) ?_
    refine scons (CStep.guard2 rfl rfl rfl (fun hg1 hg0 => PStep.c (p_move (y := .val _) rfl (Sees.of rfl) rfl)) rfl rfl rfl rfl rfl) ?_
    refine scons (CStep.guard2 rfl rfl rfl (fun hg1 hg0 => PStep.c (p_len rfl wBet4_isl37 (Sees.gv' rfl (and_true_of hg1 hg0)))) rfl rfl rfl rfl rfl) ?_
    refine scons (CStep.guard2 rfl rfl rfl (fun hg1 hg0 => by have hp0 := hg0; have hp1 := hg1; (try simp only [bs] at hp0 hp1); exact PStep.c (p_sub rfl (Sees.gv' rfl (and_true_of hg1 hg0)) (Sees.of rfl) (by omega))) rfl rfl rfl rfl rfl) ?_
    refine scons (CStep.guard2 rfl rfl rfl (fun hg1 hg0 => by have hp0 := hg0; have hp1 := hg1; (try simp only [bs] at hp0 hp1); exact PStep.c ((by first | exact p_indexN rfl wBet4_isl37 wBet4_siz33 (Sees.gv' rfl (and_true_of hg1 hg0)) (Sees.gv' rfl (and_true_of hg1 hg0)) (by omega) | exact p_index rfl wBet4_isl37 wBet4_siz33 (Sees.gv' rfl (and_true_of hg1 hg0)) (Sees.gv' rfl (and_true_of hg1 hg0)) (by omega) (by omega)))) rfl rfl rfl rfl rfl) ?_
    refine scons (CStep.guard2 rfl rfl rfl (fun hg1 hg0 => PStep.c (p_load rfl wBet4_agg33 (Sees.gv' rfl (and_true_of hg1 hg0)) rfl)) rfl rfl rfl rfl rfl) ?_
    refine scons (CStep.guard2 rfl rfl rfl (fun hg1 hg0 => PStep.c (p_len rfl wBet4_isl33 (Sees.gv' rfl (and_true_of hg1 hg0)))) rfl rfl rfl rfl rfl) ?_
    refine scons (CStep.guard2 rfl rfl rfl (fun hg1 hg0 => PStep.c (p_gtr rfl (Sees.gv' rfl (and_true_of hg1 hg0)) (Sees.of rfl))) rfl rfl rfl rfl rfl) ?_
    refine scons (CStep.guard rfl rfl rfl (fun hg0 => PStep.c (p_or rfl (Sees.gv' rfl hg0) (Sees.of rfl) (fun h => Sees.gv' rfl (and_true_of hg0 (beq_of_eq h))))) rfl rfl rfl rfl rfl) ?_
    refine scons (CStep.step (PStep.c (p_and rfl (Sees.of rfl) (fun h => Sees.gv' rfl (beq_of_eq h)) (Sees.of rfl))) rfl rfl rfl rfl) ?_
    refine snil ?_
    refine f_cond rfl ?_ ?_
    · intro hc2
      try simp only [bs] at hc2
      refine f_region ?_
      refine scons (CStep.step (PStep.c (p_build rfl wBet4_plc26 wBet4_zer26 (by decide) wBet4_zch26 ⟨_, _, _, rfl, rfl, rfl, (Sees.of rfl), rfl⟩ rfl)) rfl rfl rfl rfl) ?_
      refine scons (r_storeS rfl wBet4_siz26 rfl rfl rfl (Sees.of rfl) rfl (Sees.of rfl) rfl rfl rfl rfl) ?_
      refine snil ?_
      refine f_seq ?_
      refine f_region ?_
      refine scons (CStep.step (PStep.c (p_loadBS rfl wBet4_agg26 wBet4_siz26 (Sees.of rfl) rfl rfl rfl)) rfl rfl rfl rfl) ?_
      refine scons (r_storeS rfl wBet4_siz26 rfl rfl rfl (Sees.of rfl) rfl (Sees.of rfl) rfl rfl rfl rfl) ?_
      refine snil ?_
      refine f_ret ?_
      refine ends_ret (res_eq (res1 rfl (res_cell (by rfl) rfl rfl wBet4_agg26 wBet4_siz26 rfl rfl)) ?_)
      rw [Sp.prf_state hc1 rfl hc2]
      all_goals rfl
    · intro hc2
      try simp only [bs] at hc2
      refine f_skip ?_
      refine f_seq ?_
      refine f_region ?_
      refine scons (CStep.step (PStep.c (p_loadBS rfl wBet4_agg26 wBet4_siz26 (Sees.of rfl) rfl rfl rfl)) rfl rfl rfl rfl) ?_
      refine scons (r_storeS rfl wBet4_siz26 rfl rfl rfl (Sees.of rfl) rfl (Sees.of rfl) rfl rfl rfl rfl) ?_
      refine snil ?_
      refine f_ret ?_
      refine ends_ret (res_eq (res1 rfl (res_cell (by rfl) rfl rfl wBet4_agg26 wBet4_siz26 rfl rfl)) ?_)
      rw [Sp.prf_else (l := l) hc1 rfl (by omega)]
      all_goals rfl

set_option maxHeartbeats 2000000 in
theorem tells_spec (e : Bool) (k : Nat) (a b : List (List Int)) (l : List Sp.Rs) (x : List Bool) (hpf : Sp.Prf k a b l) (hx : x.length = k) :
    SpecN Go.Proofs.Try.prog 89 [.val (cnf k a), .val (cnf k b), .val (chos l), .val (bools x), bv e] 4 1 1 D.bool ((Sp.prtTo e a b l l.length).map fun p : Sp.Prd => p x) := by
  refine specN_of' Go.Proofs.Try.func89 rfl Go.Proofs.Try.ntmps89 rfl ?_
  refine f_seq ?_
  refine f_wf (.tmp 2) rfl (fun hwf => ?_) (by simp)
  have hlen : l.length ≤ 140737488355328 := hwf.1
  clear hwf
  have hk16 := hpf.k16
  have hll := hpf.ll
  have hlab := hpf.lab
  have hga := (Sp.check_use hpf.ca).1
  have hgb := (Sp.check_use hpf.cb).1
  refine f_region ?_
  refine scons (r_box (ob := 10005) rfl (Sees.of rfl) rfl rfl rfl rfl rfl rfl) ?_
  refine scons (r_box (ob := 10006) rfl (Sees.of rfl) rfl rfl rfl rfl rfl rfl) ?_
  refine scons (CStep.step (PStep.c (p_assign (y := .emp) rfl (Sees.of rfl) rfl)) rfl rfl rfl rfl) ?_
  refine snil ?_
  refine f_seq ?_
  refine f_region ?_
  refine scons (CStep.step (PStep.c (p_assign (y := .emp) rfl (Sees.of rfl) rfl)) rfl rfl rfl rfl) ?_
  refine snil ?_
  refine f_seq ?_
  refine f_seq ?_
  refine f_region ?_
  refine scons (CStep.step (PStep.c (p_assign (y := .val _) rfl (Sees.of rfl) rfl)) rfl rfl rfl rfl) ?_
  refine snil ?_
  refine f_block ?_
  refine f_loop (α := Nat × Nat) (fun (i, u) => i ≤ a.length) (fun (i, u) => [(12, iv i), (11, .row 30000 u), (30000, .arr u 4 1 1 D.bool false ((a.take i).map fun c => Sp.sysF e b c x)), (5, .ref 10005 0 0), (10005, .box 0 (.ccons (iv k) (.ccons (.val (intss a)) .cnil))), (6, .ref 10006 0 0), (10006, .box 0 (.ccons (iv k) (.ccons (.val (intss b)) .cnil))), (2, .val (chos l)), (3, .val (bools x)), (4, bv e), (10, .emp)]) (fun (i, u) => a.length - i) (0, 0) ?_ ?_ ?_
  · exact Nat.zero_le _
  · exact Le.trans (GLe.le (g_adopt (ob := 30000) (k := 11) 4 1 1 D.bool false rfl rfl rfl rfl)) (le_ofL ⟨rfl, rfl, rfl, rfl, rfl, rfl, rfl, rfl, rfl, rfl, rfl, trivial⟩ rfl)
  · rintro ⟨i, u⟩ hi
    have hi : i ≤ a.length := hi
    refine f_seq ?_
    refine f_seq ?_
    refine f_region ?_
    refine scons (CStep.step (PStep.c (p_move (y := .val _) rfl (Sees.of rfl) rfl)) rfl rfl rfl rfl) ?_
    refine scons (CStep.step (PStep.c (p_fieldRef rfl wBet4_fld39_1 wBet4_siz37 rfl (Sees.of rfl) rfl)) rfl rfl rfl rfl) ?_
    refine scons (CStep.step (PStep.c (p_loadB (y := .val _) rfl wBet4_agg37 (Sees.of rfl) rfl rfl rfl rfl)) rfl rfl rfl rfl) ?_
    refine scons (CStep.step (PStep.c (p_len rfl wBet4_isl37 (Sees.of rfl))) rfl rfl rfl rfl) ?_
    refine scons (CStep.step (PStep.c (p_lss rfl (Sees.of rfl) (Sees.of rfl))) rfl rfl rfl rfl) ?_
    refine snil ?_
    refine f_cond rfl ?_ ?_
    · intro hc1
      try simp only [bs] at hc1
      refine f_skip ?_
      refine f_seq ?_
      refine f_block ?_
      refine f_seq ?_
      refine f_region ?_
      refine scons (CStep.step (PStep.c (p_assign (y := .val _) rfl (Sees.of rfl) rfl)) rfl rfl rfl rfl) ?_
      refine snil ?_
      refine f_seq ?_
      refine f_seq ?_
      refine f_region ?_
      refine scons (CStep.step (PStep.c (p_assign (y := .val _) rfl (Sees.of rfl) rfl)) rfl rfl rfl rfl) ?_
      refine snil ?_
      refine f_block ?_
      refine f_loop (α := Nat) (fun j => j ≤ (a.getD i []).length) (fun j => [(14, iv j), (13, bv (Sp.fstT e b x (a.getD i []) j)), (12, iv i), (11, .row 30000 u), (30000, .arr u 4 1 1 D.bool false ((a.take i).map fun c => Sp.sysF e b c x)), (5, .ref 10005 0 0), (10005, .box 0 (.ccons (iv k) (.ccons (.val (intss a)) .cnil))), (6, .ref 10006 0 0), (10006, .box 0 (.ccons (iv k) (.ccons (.val (intss b)) .cnil))), (2, .val (chos l)), (3, .val (bools x)), (4, bv e), (10, .emp)]) (fun j => (a.getD i []).length - j) 0 ?_ ?_ ?_
      · exact Nat.zero_le _
      · exact le_ofL ⟨rfl, (by show _ = AV.val (D.bool (Sp.fstT e b x _ 0)); rw [Sp.fstT, List.take_zero]; cases e <;> rfl), rfl, rfl, rfl, rfl, rfl, rfl, rfl, rfl, rfl, rfl, rfl, trivial⟩ rfl
      · rintro j hj
        have hj : j ≤ (a.getD i []).length := hj
        have hcl := ((Sp.check_ok hpf.ca).2.2 _ (Sp.getD_mem a i [] (by omega))).1
        refine f_seq ?_
        refine f_seq ?_
        refine f_region ?_
        refine scons (CStep.step (PStep.c (p_move (y := .val _) rfl (Sees.of rfl) rfl)) rfl rfl rfl rfl) ?_
        refine scons (CStep.step (PStep.c (p_fieldRef rfl wBet4_fld39_1 wBet4_siz37 rfl (Sees.of rfl) rfl)) rfl rfl rfl rfl) ?_
        refine scons (CStep.step (PStep.c (p_loadB (y := .val _) rfl wBet4_agg37 (Sees.of rfl) rfl rfl rfl rfl)) rfl rfl rfl rfl) ?_
        refine scons (CStep.step (PStep.c (p_move (y := .val _) rfl (Sees.of rfl) rfl)) rfl rfl rfl rfl) ?_
        refine scons (CStep.step (PStep.c ((by first | exact p_indexN rfl wBet4_isl37 wBet4_siz33 (Sees.of rfl) (Sees.of rfl) (by omega) | exact p_index rfl wBet4_isl37 wBet4_siz33 (Sees.of rfl) (Sees.of rfl) (by omega) (by omega)))) rfl rfl rfl rfl) ?_
        refine scons (CStep.step (PStep.c (p_load rfl wBet4_agg33 (Sees.of rfl) rfl)) rfl rfl rfl rfl) ?_
        refine scons (CStep.step (PStep.c (p_len rfl wBet4_isl33 (Sees.of rfl))) rfl rfl rfl rfl) ?_
        refine scons (CStep.step (PStep.c (p_lss rfl (Sees.of rfl) (Sees.of rfl))) rfl rfl rfl rfl) ?_
        refine scons (CStep.step (PStep.c (p_move (y := .val _) rfl (Sees.of rfl) rfl)) rfl rfl rfl rfl) ?_
        refine scons (CStep.guard rfl rfl rfl (fun hg0 => PStep.c (p_move (y := .val _) rfl (Sees.of rfl) rfl)) rfl rfl rfl rfl rfl) ?_
        refine scons (CStep.guard rfl rfl rfl (fun hg0 => PStep.c (p_not rfl (Sees.gv' rfl hg0))) rfl rfl rfl rfl rfl) ?_
        refine scons (CStep.step (PStep.c (p_and rfl (Sees.of rfl) (fun h => Sees.gv' rfl (beq_of_eq h)) (Sees.of rfl))) rfl rfl rfl rfl) ?_
        refine snil ?_
        refine f_cond rfl ?_ ?_
        · intro hc2
          try simp only [bs] at hc2
          refine f_skip ?_
          refine f_seq ?_
          refine f_block ?_
          refine f_seq ?_
          have hgy := hga _ (Sp.getD_mem a i [] (by omega)) _ (Sp.getD_mem (a.getD i []) j 0 (by omega))
          refine f_region ?_
          refine scons (CStep.step (PStep.c (p_fieldRef rfl wBet4_fld39_1 wBet4_siz37 rfl (Sees.of rfl) rfl)) rfl rfl rfl rfl) ?_
          refine scons (CStep.step (PStep.c (p_loadB (y := .val _) rfl wBet4_agg37 (Sees.of rfl) rfl rfl rfl rfl)) rfl rfl rfl rfl) ?_
          refine scons (CStep.step (PStep.c (p_move (y := .val _) rfl (Sees.of rfl) rfl)) rfl rfl rfl rfl) ?_
          refine scons (CStep.step (PStep.c ((by first | exact p_indexN rfl wBet4_isl37 wBet4_siz33 (Sees.of rfl) (Sees.of rfl) (by omega) | exact p_index rfl wBet4_isl37 wBet4_siz33 (Sees.of rfl) (Sees.of rfl) (by omega) (by omega)))) rfl rfl rfl rfl) ?_
          refine scons (CStep.step (PStep.c (p_load rfl wBet4_agg33 (Sees.of rfl) rfl)) rfl rfl rfl rfl) ?_
          refine scons (CStep.step (PStep.c (p_move (y := .val _) rfl (Sees.of rfl) rfl)) rfl rfl rfl rfl) ?_
          refine scons (CStep.step (PStep.c ((by first | exact p_indexN rfl wBet4_isl33 wBet4_siz3 (Sees.of rfl) (Sees.of rfl) (by omega) | exact p_index rfl wBet4_isl33 wBet4_siz3 (Sees.of rfl) (Sees.of rfl) (by omega) (by omega)))) rfl rfl rfl rfl) ?_
          refine scons (CStep.step (PStep.c (p_load rfl wBet4_agg3 (Sees.of rfl) rfl)) rfl rfl rfl rfl) ?_
          refine scons (CStep.step (PStep.c (p_assign (y := .val _) rfl (Sees.of rfl) rfl)) rfl rfl rfl rfl) ?_
          refine snil ?_
          refine f_seq ?_
          refine f_draw wBet4_mix (by kernel_rfl) ?_
          refine dcons (CStep.step (PStep.c (p_fieldRef rfl wBet4_fld39_1 wBet4_siz37 rfl (Sees.of rfl) rfl)) rfl rfl rfl rfl) ?_
          refine dcons (CStep.step (PStep.c (p_loadB (y := .val _) rfl wBet4_agg37 (Sees.of rfl) rfl rfl rfl rfl)) rfl rfl rfl rfl) ?_
          refine dcons (CStep.step (PStep.c (p_move (y := .val _) rfl (Sees.of rfl) rfl)) rfl rfl rfl rfl) ?_
          refine dcons (CStep.step (c_call rfl wBet4_isf29 ⟨_, _, rfl, (Sees.of rfl), rfl, rfl⟩ (ofB_spec ((a.getD i []).getD j 0) (by omega))) rfl rfl rfl rfl) ?_
          refine dcons (CStep.step (c_call rfl wBet4_isf43 ⟨_, _, rfl, (Sees.of rfl), rfl, ⟨_, _, rfl, (Sees.of rfl), rfl, rfl⟩⟩ (stands_spec b (Sp.av ((a.getD i []).getD j 0)) (by unfold Sp.av; omega))) rfl rfl rfl rfl) ?_
          refine dcons (CStep.step (PStep.c (p_move (y := .val _) rfl (Sees.of rfl) rfl)) rfl rfl rfl rfl) ?_
          refine dcons (CStep.guard rfl rfl rfl (fun hg0 => PStep.c (p_move (y := .val _) rfl (Sees.of rfl) rfl)) rfl rfl rfl rfl rfl) ?_
          refine dcons (CStep.guard rfl rfl rfl (fun hg0 => PStep.c (p_move (y := .val _) rfl (Sees.of rfl) rfl)) rfl rfl rfl rfl rfl) ?_
          refine dcons (CStep.guard rfl rfl rfl (fun hg0 => c_buildSlice (f := di) (za := 0) (xs := [.tmp 57]) rfl rfl wBet4_isl33 wBet4_siz3 wBet4_zer3 rfl rfl ⟨_, _, rfl, (Sees.gv' rfl hg0), rfl, rfl, rfl⟩) rfl rfl rfl rfl rfl) ?_
          refine dcons (CStep.guard rfl rfl rfl (fun hg0 => c_call rfl wBet4_isf30 ⟨_, _, rfl, (Sees.gv' rfl hg0), rfl, ⟨_, _, rfl, (Sees.gv' rfl hg0), rfl, rfl⟩⟩ (sat_spec x [((a.getD i []).getD j 0)] (by rw [hx]; intro y hy; rw [List.mem_singleton.1 hy]; exact hgy))) rfl rfl rfl rfl rfl) ?_
          refine dcons (CStep.step (PStep.c (p_and rfl (Sees.of rfl) (fun h => Sees.gv' rfl (beq_of_eq h)) (Sees.of rfl))) rfl rfl rfl rfl) ?_
          refine dnil (by kernel_rfl) ?_
          refine f_cond rfl ?_ ?_
          · intro hc3
            try simp only [bs] at hc3
            refine f_region ?_
            refine scons (CStep.step (PStep.c (p_assign (y := .val _) rfl (Sees.of rfl) rfl)) rfl rfl rfl rfl) ?_
            refine snil ?_
            refine f_nil ?_
            show AWs _ _ _ _ _
            refine f_region ?_
            refine scons (CStep.step (PStep.c (p_move (y := .val _) rfl (Sees.of rfl) rfl)) rfl rfl rfl rfl) ?_
            refine scons (CStep.step (PStep.c (p_add rfl (Sees.of rfl) (Sees.of rfl) (by omega))) rfl rfl rfl rfl) ?_
            refine scons (CStep.step (PStep.c (p_assign (y := .val _) rfl (Sees.of rfl) rfl)) rfl rfl rfl rfl) ?_
            refine snil ?_
            refine f_back ⟨j + 1, ?_, ?_, le_ofL ⟨rfl, (by rw [Sp.fst_step (by omega), hc3.1, hc2.2, show Sp.lit x ((a.getD i []).getD j 0) = true from by simpa [Sp.sat] using hc3.2]; simp; rfl), rfl, rfl, rfl, rfl, rfl, rfl, rfl, rfl, rfl, rfl, rfl, trivial⟩ rfl⟩
            · omega
            · omega
          · intro hc3
            try simp only [bs] at hc3
            refine f_skip ?_
            refine f_nil ?_
            show AWs _ _ _ _ _
            refine f_region ?_
            refine scons (CStep.step (PStep.c (p_move (y := .val _) rfl (Sees.of rfl) rfl)) rfl rfl rfl rfl) ?_
            refine scons (CStep.step (PStep.c (p_add rfl (Sees.of rfl) (Sees.of rfl) (by omega))) rfl rfl rfl rfl) ?_
            refine scons (CStep.step (PStep.c (p_assign (y := .val _) rfl (Sees.of rfl) rfl)) rfl rfl rfl rfl) ?_
            refine snil ?_
            refine f_back ⟨j + 1, ?_, ?_, le_ofL ⟨rfl, (by rw [Sp.fst_step (by omega), show (Sp.occ b (Sp.av ((a.getD i []).getD j 0)) && Sp.lit x ((a.getD i []).getD j 0)) = false from by rcases hc3 with h | h <;> first | (rw [h]; rfl) | (rw [show Sp.lit x ((a.getD i []).getD j 0) = false from by simpa [Sp.sat] using h, Bool.and_false])]; simp; rfl), rfl, rfl, rfl, rfl, rfl, rfl, rfl, rfl, rfl, rfl, rfl, trivial⟩ rfl⟩
            · omega
            · omega
        · intro hc2
          try simp only [bs] at hc2
          refine f_exit ?_
          show AWs _ _ _ _ _
          refine f_region ?_
          refine scons (CStep.step (PStep.c (p_move (y := .row _ _) rfl (Sees.of rfl) rfl)) rfl rfl rfl rfl) ?_
          refine scons (CStep.step (PStep.c (p_move (y := .val _) rfl (Sees.of rfl) rfl)) rfl rfl rfl rfl) ?_
          refine scons (CStep.step (c_buildSlice (f := D.bool) (za := false) (xs := [.tmp 62]) rfl rfl wBet4_isl24 wBet4_siz4 wBet4_zer4 rfl rfl ⟨_, _, rfl, (Sees.of rfl), rfl, rfl, rfl⟩) rfl rfl rfl rfl) ?_
          refine scons (r_appendR (ob := 30000) rfl wBet4_isl24 wBet4_siz4 wBet4_byt4 wBet4_zer4 rfl rfl (Sees.of rfl) rfl (Sees.of rfl) (by simp only [List.length_map, List.length_append, List.length_take, List.length_cons, List.length_nil]; omega) (by simp only [List.length_map, List.length_append, List.length_take, List.length_cons, List.length_nil]; omega) rfl rfl rfl rfl rfl) ?_
          refine scons (CStep.step (PStep.c (p_assign (y := .row _ _) rfl (Sees.of rfl) rfl)) rfl rfl rfl rfl) ?_
          refine snil ?_
          refine f_nil ?_
          show AWs _ _ _ _ _
          refine f_region ?_
          refine scons (CStep.step (PStep.c (p_move (y := .val _) rfl (Sees.of rfl) rfl)) rfl rfl rfl rfl) ?_
          refine scons (CStep.step (PStep.c (p_add rfl (Sees.of rfl) (Sees.of rfl) (by omega))) rfl rfl rfl rfl) ?_
          refine scons (CStep.step (PStep.c (p_assign (y := .val _) rfl (Sees.of rfl) rfl)) rfl rfl rfl rfl) ?_
          refine snil ?_
          refine f_back ⟨(i + 1, u + 1), ?_, ?_, le_ofL ⟨rfl, rfl, (by rw [Sp.fst_end (by rintro ⟨q1, q2⟩; rcases hc2 with h2 | h2 <;> first | omega | simp_all), Sp.take_getD a i [] (by omega), List.map_append]; rfl), rfl, rfl, rfl, rfl, rfl, rfl, rfl, rfl, trivial⟩ rfl⟩
          · show i + 1 ≤ _
            omega
          · show _ - (i + 1) < _ - i
            omega
    · intro hc1
      try simp only [bs] at hc1
      refine f_exit ?_
      show AWs _ _ _ _ _
      refine f_seq ?_
      refine f_seq ?_
      refine f_region ?_
      refine scons (CStep.step (PStep.c (p_assign (y := .val _) rfl (Sees.of rfl) rfl)) rfl rfl rfl rfl) ?_
      refine snil ?_
      refine f_block ?_
      refine f_loop (α := Nat × Nat) (fun (i, u) => i ≤ b.length) (fun (i, u) => [(16, iv i), (11, .row 30000 u), (30000, .arr u 4 1 1 D.bool false ((a.map (Sp.sysF e b) ++ (b.take i).map fun _ => (fun _ => true : Sp.Prd)).map fun p : Sp.Prd => p x)), (5, .ref 10005 0 0), (10005, .box 0 (.ccons (iv k) (.ccons (.val (intss a)) .cnil))), (6, .ref 10006 0 0), (10006, .box 0 (.ccons (iv k) (.ccons (.val (intss b)) .cnil))), (2, .val (chos l)), (3, .val (bools x)), (4, bv e), (10, .emp)]) (fun (i, u) => b.length - i) (0, u) ?_ ?_ ?_
      · exact Nat.zero_le _
      · exact le_ofL ⟨rfl, rfl, (by rw [show (((a.map (Sp.sysF e b) ++ (b.take 0).map fun _ => (fun _ => true : Sp.Prd)).map fun p : Sp.Prd => p x) : List Bool) = ((a.take i).map fun c => Sp.sysF e b c x) from by rw [List.take_of_length_le (l := a) (by omega)]; simp]; rfl), rfl, rfl, rfl, rfl, rfl, rfl, rfl, rfl, trivial⟩ rfl
      · rintro ⟨i, u⟩ hi
        have hi : i ≤ b.length := hi
        refine f_seq ?_
        refine f_seq ?_
        refine f_region ?_
        refine scons (CStep.step (PStep.c (p_move (y := .val _) rfl (Sees.of rfl) rfl)) rfl rfl rfl rfl) ?_
        refine scons (CStep.step (PStep.c (p_fieldRef rfl wBet4_fld39_1 wBet4_siz37 rfl (Sees.of rfl) rfl)) rfl rfl rfl rfl) ?_
        refine scons (CStep.step (PStep.c (p_loadB (y := .val _) rfl wBet4_agg37 (Sees.of rfl) rfl rfl rfl rfl)) rfl rfl rfl rfl) ?_
        refine scons (CStep.step (PStep.c (p_len rfl wBet4_isl37 (Sees.of rfl))) rfl rfl rfl rfl) ?_
        refine scons (CStep.step (PStep.c (p_lss rfl (Sees.of rfl) (Sees.of rfl))) rfl rfl rfl rfl) ?_
        refine snil ?_
        refine f_cond rfl ?_ ?_
        · intro hc4
          try simp only [bs] at hc4
          refine f_skip ?_
          refine f_seq ?_
          refine f_block ?_
          refine f_region ?_
          refine scons (CStep.step (PStep.c (p_move (y := .row _ _) rfl (Sees.of rfl) rfl)) rfl rfl rfl rfl) ?_
          refine scons (CStep.step (c_buildSlice (f := D.bool) (za := false) (xs := [.const (.bool true)]) rfl rfl wBet4_isl24 wBet4_siz4 wBet4_zer4 rfl rfl ⟨_, _, rfl, (Sees.of rfl), rfl, rfl, rfl⟩) rfl rfl rfl rfl) ?_
          refine scons (r_appendR (ob := 30000) rfl wBet4_isl24 wBet4_siz4 wBet4_byt4 wBet4_zer4 rfl rfl (Sees.of rfl) rfl (Sees.of rfl) (by simp only [List.length_map, List.length_append, List.length_take, List.length_cons, List.length_nil]; omega) (by simp only [List.length_map, List.length_append, List.length_take, List.length_cons, List.length_nil]; omega) rfl rfl rfl rfl rfl) ?_
          refine scons (CStep.step (PStep.c (p_assign (y := .row _ _) rfl (Sees.of rfl) rfl)) rfl rfl rfl rfl) ?_
          refine snil ?_
          refine f_nil ?_
          show AWs _ _ _ _ _
          refine f_region ?_
          refine scons (CStep.step (PStep.c (p_move (y := .val _) rfl (Sees.of rfl) rfl)) rfl rfl rfl rfl) ?_
          refine scons (CStep.step (PStep.c (p_add rfl (Sees.of rfl) (Sees.of rfl) (by omega))) rfl rfl rfl rfl) ?_
          refine scons (CStep.step (PStep.c (p_assign (y := .val _) rfl (Sees.of rfl) rfl)) rfl rfl rfl rfl) ?_
          refine snil ?_
          refine f_back ⟨(i + 1, u + 1), ?_, ?_, le_ofL ⟨rfl, rfl, (by rw [Sp.take_getD b i [] (by omega), List.map_append (l₁ := b.take i), ← List.append_assoc, List.map_append (l₂ := [b.getD i []].map _)]; rfl), rfl, rfl, rfl, rfl, rfl, rfl, rfl, rfl, trivial⟩ rfl⟩
          · show i + 1 ≤ _
            omega
          · show _ - (i + 1) < _ - i
            omega
        · intro hc4
          try simp only [bs] at hc4
          refine f_exit ?_
          show AWs _ _ _ _ _
          refine f_seq ?_
          refine f_seq ?_
          refine f_region ?_
          refine scons (CStep.step (PStep.c (p_assign (y := .val _) rfl (Sees.of rfl) rfl)) rfl rfl rfl rfl) ?_
          refine snil ?_
          refine f_block ?_
          refine f_loop (α := Nat × Nat) (fun (i, u) => i ≤ l.length) (fun (i, u) => [(17, iv i), (11, .row 30000 u), (30000, .arr u 4 1 1 D.bool false ((Sp.prtTo e a b l i).map fun p : Sp.Prd => p x)), (5, .ref 10005 0 0), (10005, .box 0 (.ccons (iv k) (.ccons (.val (intss a)) .cnil))), (6, .ref 10006 0 0), (10006, .box 0 (.ccons (iv k) (.ccons (.val (intss b)) .cnil))), (2, .val (chos l)), (3, .val (bools x)), (4, bv e), (10, .emp)]) (fun (i, u) => l.length - i) (0, u) ?_ ?_ ?_
          · exact Nat.zero_le _
          · exact le_ofL ⟨rfl, rfl, (by rw [show (((Sp.prtTo e a b l 0).map fun p : Sp.Prd => p x) : List Bool) = ((a.map (Sp.sysF e b) ++ (b.take i).map fun _ => (fun _ => true : Sp.Prd)).map fun p : Sp.Prd => p x) from by rw [List.take_of_length_le (l := b) (by omega)]; rfl]; rfl), rfl, rfl, rfl, rfl, rfl, rfl, rfl, rfl, trivial⟩ rfl
          · rintro ⟨i, u⟩ hi
            have hi : i ≤ l.length := hi
            refine f_seq ?_
            refine f_seq ?_
            refine f_region ?_
            refine scons (CStep.step (PStep.c (p_move (y := .val _) rfl (Sees.of rfl) rfl)) rfl rfl rfl rfl) ?_
            refine scons (CStep.step (PStep.c (p_move (y := .val _) rfl (Sees.of rfl) rfl)) rfl rfl rfl rfl) ?_
            refine scons (CStep.step (PStep.c (p_len rfl wBet4_isl63 (Sees.of rfl))) rfl rfl rfl rfl) ?_
            refine scons (CStep.step (PStep.c (p_lss rfl (Sees.of rfl) (Sees.of rfl))) rfl rfl rfl rfl) ?_
            refine snil ?_
            refine f_cond rfl ?_ ?_
            · intro hc5
              try simp only [bs] at hc5
              refine f_skip ?_
              refine f_seq ?_
              refine f_block ?_
              refine f_seq ?_
              obtain ⟨w1, w2, w3, _, _⟩ := Sp.resOne_use (hpf.ok i (by omega))
              have hrl := Sp.resTo_len (n := k) (g := a ++ b) (l := l) i (by omega)
              rw [List.length_append] at hrl
              have hpl := Sp.prtTo_len (e := e) (a := a) (b := b) (l := l) i (by omega)
              refine f_region ?_
              refine scons (CStep.step (PStep.c (p_move (y := .row _ _) rfl (Sees.of rfl) rfl)) rfl rfl rfl rfl) ?_
              refine scons (CStep.step (PStep.c (p_move (y := .val _) rfl (Sees.of rfl) rfl)) rfl rfl rfl rfl) ?_
              refine scons (CStep.step (PStep.c (p_move (y := .val _) rfl (Sees.of rfl) rfl)) rfl rfl rfl rfl) ?_
              refine scons (CStep.step (PStep.c ((by first | exact p_indexN rfl wBet4_isl63 wBet4_siz171 (Sees.of rfl) (Sees.of rfl) (by omega) | exact p_index rfl wBet4_isl63 wBet4_siz171 (Sees.of rfl) (Sees.of rfl) (by omega) (by omega)))) rfl rfl rfl rfl) ?_
              refine scons (CStep.step (PStep.c (p_fieldAddr rfl wBet4_fld171_0 wBet4_siz3 (by decide) (Sees.of rfl) rfl rfl)) rfl rfl rfl rfl) ?_
              refine scons (CStep.step (PStep.c (p_load rfl wBet4_agg3 (Sees.of rfl) rfl)) rfl rfl rfl rfl) ?_
              refine scons (CStep.step (PStep.c ((by first | exact p_indexR rfl wBet4_isl24 wBet4_siz4 (Sees.of rfl) rfl (Sees.of rfl) (by rw [List.length_map, hpl]; omega) | exact p_indexRZ rfl wBet4_isl24 wBet4_siz4 (Sees.of rfl) rfl (Sees.of rfl) (by omega) (by rw [List.length_map, hpl]; omega)))) rfl rfl rfl rfl) ?_
              refine scons (CStep.step (PStep.c (p_loadE rfl wBet4_agg4 (Sees.of rfl) rfl (by rw [List.length_map, hpl]; omega) (fun _ => rfl))) rfl rfl rfl rfl) ?_
              refine scons (CStep.step (PStep.c (p_assign (y := .val _) rfl (Sees.of rfl) rfl)) rfl rfl rfl rfl) ?_
              refine snil ?_
              refine f_seq ?_
              refine f_region ?_
              refine scons (CStep.step (PStep.c (p_move (y := .row _ _) rfl (Sees.of rfl) rfl)) rfl rfl rfl rfl) ?_
              refine scons (CStep.step (PStep.c (p_move (y := .val _) rfl (Sees.of rfl) rfl)) rfl rfl rfl rfl) ?_
              refine scons (CStep.step (PStep.c (p_move (y := .val _) rfl (Sees.of rfl) rfl)) rfl rfl rfl rfl) ?_
              refine scons (CStep.step (PStep.c ((by first | exact p_indexN rfl wBet4_isl63 wBet4_siz171 (Sees.of rfl) (Sees.of rfl) (by omega) | exact p_index rfl wBet4_isl63 wBet4_siz171 (Sees.of rfl) (Sees.of rfl) (by omega) (by omega)))) rfl rfl rfl rfl) ?_
              refine scons (CStep.step (PStep.c (p_fieldAddr rfl wBet4_fld171_1 wBet4_siz3 (by decide) (Sees.of rfl) rfl rfl)) rfl rfl rfl rfl) ?_
              refine scons (CStep.step (PStep.c (p_load rfl wBet4_agg3 (Sees.of rfl) rfl)) rfl rfl rfl rfl) ?_
              refine scons (CStep.step (PStep.c ((by first | exact p_indexR rfl wBet4_isl24 wBet4_siz4 (Sees.of rfl) rfl (Sees.of rfl) (by rw [List.length_map, hpl]; omega) | exact p_indexRZ rfl wBet4_isl24 wBet4_siz4 (Sees.of rfl) rfl (Sees.of rfl) (by omega) (by rw [List.length_map, hpl]; omega)))) rfl rfl rfl rfl) ?_
              refine scons (CStep.step (PStep.c (p_loadE rfl wBet4_agg4 (Sees.of rfl) rfl (by rw [List.length_map, hpl]; omega) (fun _ => rfl))) rfl rfl rfl rfl) ?_
              refine scons (CStep.step (PStep.c (p_assign (y := .val _) rfl (Sees.of rfl) rfl)) rfl rfl rfl rfl) ?_
              refine snil ?_
              refine f_seq ?_
              refine f_region ?_
              refine scons (CStep.step (PStep.c (p_move (y := .val _) rfl (Sees.of rfl) rfl)) rfl rfl rfl rfl) ?_
              refine scons (CStep.step (PStep.c (p_move (y := .val _) rfl (Sees.of rfl) rfl)) rfl rfl rfl rfl) ?_
              refine scons (CStep.step (PStep.c ((by first | exact p_indexN rfl wBet4_isl63 wBet4_siz171 (Sees.of rfl) (Sees.of rfl) (by omega) | exact p_index rfl wBet4_isl63 wBet4_siz171 (Sees.of rfl) (Sees.of rfl) (by omega) (by omega)))) rfl rfl rfl rfl) ?_
              refine scons (CStep.step (PStep.c (p_fieldAddr rfl wBet4_fld171_2 wBet4_siz3 (by decide) (Sees.of rfl) rfl rfl)) rfl rfl rfl rfl) ?_
              refine scons (CStep.step (PStep.c (p_load rfl wBet4_agg3 (Sees.of rfl) rfl)) rfl rfl rfl rfl) ?_
              refine scons (CStep.step (PStep.c (p_assign (y := .val _) rfl (Sees.of rfl) rfl)) rfl rfl rfl rfl) ?_
              refine snil ?_
              refine f_block ?_
              refine f_seq ?_
              refine f_region ?_
              refine scons (CStep.step (PStep.c (p_fieldRef rfl wBet4_fld39_1 wBet4_siz37 rfl (Sees.of rfl) rfl)) rfl rfl rfl rfl) ?_
              refine scons (CStep.step (PStep.c (p_loadB (y := .val _) rfl wBet4_agg37 (Sees.of rfl) rfl rfl rfl rfl)) rfl rfl rfl rfl) ?_
              refine scons (CStep.step (PStep.c (p_move (y := .val _) rfl (Sees.of rfl) rfl)) rfl rfl rfl rfl) ?_
              refine scons (CStep.step (c_call rfl wBet4_isf43 ⟨_, _, rfl, (Sees.of rfl), rfl, ⟨_, _, rfl, (Sees.of rfl), rfl, rfl⟩⟩ (stands_spec b (l.getD i (0, 0, 0)).2.2 (by omega))) rfl rfl rfl rfl) ?_
              refine scons (CStep.step (PStep.c (p_not rfl (Sees.of rfl))) rfl rfl rfl rfl) ?_
              refine scons (CStep.step (PStep.c (p_assign (y := .val _) rfl (Sees.of rfl) rfl)) rfl rfl rfl rfl) ?_
              refine snil ?_
              refine f_cond rfl ?_ ?_
              · intro hc6
                try simp only [bs] at hc6
                refine f_region ?_
                refine scons (CStep.step (PStep.c (p_move (y := .row _ _) rfl (Sees.of rfl) rfl)) rfl rfl rfl rfl) ?_
                refine scons (CStep.step (PStep.c (p_move (y := .val _) rfl (Sees.of rfl) rfl)) rfl rfl rfl rfl) ?_
                refine scons (CStep.step (PStep.c (p_move (y := .val _) rfl (Sees.of rfl) rfl)) rfl rfl rfl rfl) ?_
                refine scons (CStep.guard rfl rfl rfl (fun hg0 => PStep.c (p_move (y := .val _) rfl (Sees.of rfl) rfl)) rfl rfl rfl rfl rfl) ?_
                refine scons (CStep.step (PStep.c (p_or rfl (Sees.of rfl) (Sees.of rfl) (fun h => Sees.gv' rfl (beq_of_eq h)))) rfl rfl rfl rfl) ?_
                refine scons (CStep.step (c_buildSlice (f := D.bool) (za := false) (xs := [.tmp 116]) rfl rfl wBet4_isl24 wBet4_siz4 wBet4_zer4 rfl rfl ⟨_, _, rfl, (Sees.of rfl), rfl, rfl, rfl⟩) rfl rfl rfl rfl) ?_
                refine scons (r_appendR (ob := 30000) rfl wBet4_isl24 wBet4_siz4 wBet4_byt4 wBet4_zer4 rfl rfl (Sees.of rfl) rfl (Sees.of rfl) (by rw [List.length_map, hpl]; simp only [List.length_cons, List.length_nil]; omega) (by rw [List.length_map, hpl]; simp only [List.length_cons, List.length_nil]; omega) rfl rfl rfl rfl rfl) ?_
                refine scons (CStep.step (PStep.c (p_assign (y := .row _ _) rfl (Sees.of rfl) rfl)) rfl rfl rfl rfl) ?_
                refine snil ?_
                refine f_nil ?_
                show AWs _ _ _ _ _
                refine f_nil ?_
                show AWs _ _ _ _ _
                refine f_region ?_
                refine scons (CStep.step (PStep.c (p_move (y := .val _) rfl (Sees.of rfl) rfl)) rfl rfl rfl rfl) ?_
                refine scons (CStep.step (PStep.c (p_add rfl (Sees.of rfl) (Sees.of rfl) (by omega))) rfl rfl rfl rfl) ?_
                refine scons (CStep.step (PStep.c (p_assign (y := .val _) rfl (Sees.of rfl) rfl)) rfl rfl rfl rfl) ?_
                refine snil ?_
                refine f_back ⟨(i + 1, u + 1), ?_, ?_, le_ofL ⟨rfl, rfl, (by rw [Sp.prt_snoc (by omega) (Sp.prt_or hc6)]; rfl), rfl, rfl, rfl, rfl, rfl, rfl, rfl, rfl, trivial⟩ rfl⟩
                · show i + 1 ≤ _
                  omega
                · show _ - (i + 1) < _ - i
                  omega
              · intro hc6
                try simp only [bs] at hc6
                refine f_seq ?_
                refine f_region ?_
                refine scons (CStep.step (PStep.c (p_move (y := .val _) rfl (Sees.of rfl) rfl)) rfl rfl rfl rfl) ?_
                refine scons (CStep.step (PStep.c (p_not rfl (Sees.of rfl))) rfl rfl rfl rfl) ?_
                refine scons (CStep.step (PStep.c (p_move (y := .val _) rfl (Sees.of rfl) rfl)) rfl rfl rfl rfl) ?_
                refine scons (CStep.guard rfl rfl rfl (fun hg0 => PStep.c (p_fieldRef rfl wBet4_fld39_1 wBet4_siz37 rfl (Sees.of rfl) rfl)) rfl rfl rfl rfl rfl) ?_
                refine scons (CStep.guard rfl rfl rfl (fun hg0 => PStep.c (p_loadB (y := .val _) rfl wBet4_agg37 (Sees.gv' rfl hg0) rfl rfl rfl rfl)) rfl rfl rfl rfl rfl) ?_
                refine scons (CStep.guard rfl rfl rfl (fun hg0 => PStep.c (p_move (y := .val _) rfl (Sees.of rfl) rfl)) rfl rfl rfl rfl rfl) ?_
                refine scons (CStep.guard rfl rfl rfl (fun hg0 => by have hp0 := hg0; (try simp only [bs] at hp0); exact c_call rfl wBet4_isf43 ⟨_, _, rfl, (Sees.gv' rfl hg0), rfl, ⟨_, _, rfl, (Sees.gv' rfl hg0), rfl, rfl⟩⟩ (stands_spec a (l.getD i (0, 0, 0)).2.2 (by omega))) rfl rfl rfl rfl rfl) ?_
                refine scons (CStep.guard rfl rfl rfl (fun hg0 => PStep.c (p_not rfl (Sees.gv' rfl hg0))) rfl rfl rfl rfl rfl) ?_
                refine scons (CStep.step (PStep.c (p_or rfl (Sees.of rfl) (Sees.of rfl) (fun h => Sees.gv' rfl (beq_of_eq h)))) rfl rfl rfl rfl) ?_
                refine scons (CStep.step (PStep.c (p_assign (y := .val _) rfl (Sees.of rfl) rfl)) rfl rfl rfl rfl) ?_
                refine snil ?_
                refine f_cond rfl ?_ ?_
                · intro hc7
                  try simp only [bs] at hc7
                  refine f_region ?_
                  refine scons (CStep.step (PStep.c (p_move (y := .row _ _) rfl (Sees.of rfl) rfl)) rfl rfl rfl rfl) ?_
                  refine scons (CStep.step (PStep.c (p_move (y := .val _) rfl (Sees.of rfl) rfl)) rfl rfl rfl rfl) ?_
                  refine scons (CStep.step (PStep.c (p_move (y := .val _) rfl (Sees.of rfl) rfl)) rfl rfl rfl rfl) ?_
                  refine scons (CStep.guard rfl rfl rfl (fun hg0 => PStep.c (p_move (y := .val _) rfl (Sees.of rfl) rfl)) rfl rfl rfl rfl rfl) ?_
                  refine scons (CStep.step (PStep.c (p_and rfl (Sees.of rfl) (fun h => Sees.gv' rfl (beq_of_eq h)) (Sees.of rfl))) rfl rfl rfl rfl) ?_
                  refine scons (CStep.step (c_buildSlice (f := D.bool) (za := false) (xs := [.tmp 133]) rfl rfl wBet4_isl24 wBet4_siz4 wBet4_zer4 rfl rfl ⟨_, _, rfl, (Sees.of rfl), rfl, rfl, rfl⟩) rfl rfl rfl rfl) ?_
                  refine scons (r_appendR (ob := 30000) rfl wBet4_isl24 wBet4_siz4 wBet4_byt4 wBet4_zer4 rfl rfl (Sees.of rfl) rfl (Sees.of rfl) (by rw [List.length_map, hpl]; simp only [List.length_cons, List.length_nil]; omega) (by rw [List.length_map, hpl]; simp only [List.length_cons, List.length_nil]; omega) rfl rfl rfl rfl rfl) ?_
                  refine scons (CStep.step (PStep.c (p_assign (y := .row _ _) rfl (Sees.of rfl) rfl)) rfl rfl rfl rfl) ?_
                  refine snil ?_
                  refine f_nil ?_
                  show AWs _ _ _ _ _
                  refine f_nil ?_
                  show AWs _ _ _ _ _
                  refine f_region ?_
                  refine scons (CStep.step (PStep.c (p_move (y := .val _) rfl (Sees.of rfl) rfl)) rfl rfl rfl rfl) ?_
                  refine scons (CStep.step (PStep.c (p_add rfl (Sees.of rfl) (Sees.of rfl) (by omega))) rfl rfl rfl rfl) ?_
                  refine scons (CStep.step (PStep.c (p_assign (y := .val _) rfl (Sees.of rfl) rfl)) rfl rfl rfl rfl) ?_
                  refine snil ?_
                  refine f_back ⟨(i + 1, u + 1), ?_, ?_, le_ofL ⟨rfl, rfl, (by rw [Sp.prt_snoc (by omega) (Sp.prt_and hc6 hc7)]; rfl), rfl, rfl, rfl, rfl, rfl, rfl, rfl, rfl, trivial⟩ rfl⟩
                  · show i + 1 ≤ _
                    omega
                  · show _ - (i + 1) < _ - i
                    omega
                · intro hc7
                  try simp only [bs] at hc7
                  refine f_seq ?_
                  refine f_region ?_
                  refine scons (CStep.step (PStep.c (p_move (y := .val _) rfl (Sees.of rfl) rfl)) rfl rfl rfl rfl) ?_
                  refine scons (CStep.step (PStep.c (p_move (y := .val _) rfl (Sees.of rfl) rfl)) rfl rfl rfl rfl) ?_
                  refine scons (CStep.step (PStep.c (p_sub rfl (Sees.of rfl) (Sees.of rfl) (by omega))) rfl rfl rfl rfl) ?_
                  refine scons (CStep.step (PStep.c ((by first | exact p_indexN rfl wBet4_isl24 wBet4_siz4 (Sees.of rfl) (Sees.of rfl) (by rw [hx]; omega) | exact p_index rfl wBet4_isl24 wBet4_siz4 (Sees.of rfl) (Sees.of rfl) (by omega) (by rw [hx]; omega)))) rfl rfl rfl rfl) ?_
                  refine scons (CStep.step (PStep.c (p_load rfl wBet4_agg4 (Sees.of rfl) rfl)) rfl rfl rfl rfl) ?_
                  refine scons (CStep.step (PStep.c (p_assign (y := .val _) rfl (Sees.of rfl) rfl)) rfl rfl rfl rfl) ?_
                  refine snil ?_
                  refine f_cond rfl ?_ ?_
                  · intro hc8
                    try simp only [bs] at hc8
                    refine f_region ?_
                    refine scons (CStep.step (PStep.c (p_move (y := .row _ _) rfl (Sees.of rfl) rfl)) rfl rfl rfl rfl) ?_
                    refine scons (CStep.step (PStep.c (p_move (y := .val _) rfl (Sees.of rfl) rfl)) rfl rfl rfl rfl) ?_
                    refine scons (CStep.step (c_buildSlice (f := D.bool) (za := false) (xs := [.tmp 143]) rfl rfl wBet4_isl24 wBet4_siz4 wBet4_zer4 rfl rfl ⟨_, _, rfl, (Sees.of rfl), rfl, rfl, rfl⟩) rfl rfl rfl rfl) ?_
                    refine scons (r_appendR (ob := 30000) rfl wBet4_isl24 wBet4_siz4 wBet4_byt4 wBet4_zer4 rfl rfl (Sees.of rfl) rfl (Sees.of rfl) (by rw [List.length_map, hpl]; simp only [List.length_cons, List.length_nil]; omega) (by rw [List.length_map, hpl]; simp only [List.length_cons, List.length_nil]; omega) rfl rfl rfl rfl rfl) ?_
                    refine scons (CStep.step (PStep.c (p_assign (y := .row _ _) rfl (Sees.of rfl) rfl)) rfl rfl rfl rfl) ?_
                    refine snil ?_
                    refine f_nil ?_
                    show AWs _ _ _ _ _
                    refine f_nil ?_
                    show AWs _ _ _ _ _
                    refine f_region ?_
                    refine scons (CStep.step (PStep.c (p_move (y := .val _) rfl (Sees.of rfl) rfl)) rfl rfl rfl rfl) ?_
                    refine scons (CStep.step (PStep.c (p_add rfl (Sees.of rfl) (Sees.of rfl) (by omega))) rfl rfl rfl rfl) ?_
                    refine scons (CStep.step (PStep.c (p_assign (y := .val _) rfl (Sees.of rfl) rfl)) rfl rfl rfl rfl) ?_
                    refine snil ?_
                    refine f_back ⟨(i + 1, u + 1), ?_, ?_, le_ofL ⟨rfl, rfl, (by rw [Sp.prt_snoc (by omega) (Sp.prt_hi hc6 (by simpa using hc7) hc8)]; rfl), rfl, rfl, rfl, rfl, rfl, rfl, rfl, rfl, trivial⟩ rfl⟩
                    · show i + 1 ≤ _
                      omega
                    · show _ - (i + 1) < _ - i
                      omega
                  · intro hc8
                    try simp only [bs] at hc8
                    refine f_region ?_
                    refine scons (CStep.step (PStep.c (p_move (y := .row _ _) rfl (Sees.of rfl) rfl)) rfl rfl rfl rfl) ?_
                    refine scons (CStep.step (PStep.c (p_move (y := .val _) rfl (Sees.of rfl) rfl)) rfl rfl rfl rfl) ?_
                    refine scons (CStep.step (c_buildSlice (f := D.bool) (za := false) (xs := [.tmp 103]) rfl rfl wBet4_isl24 wBet4_siz4 wBet4_zer4 rfl rfl ⟨_, _, rfl, (Sees.of rfl), rfl, rfl, rfl⟩) rfl rfl rfl rfl) ?_
                    refine scons (r_appendR (ob := 30000) rfl wBet4_isl24 wBet4_siz4 wBet4_byt4 wBet4_zer4 rfl rfl (Sees.of rfl) rfl (Sees.of rfl) (by rw [List.length_map, hpl]; simp only [List.length_cons, List.length_nil]; omega) (by rw [List.length_map, hpl]; simp only [List.length_cons, List.length_nil]; omega) rfl rfl rfl rfl rfl) ?_
                    refine scons (CStep.step (PStep.c (p_assign (y := .row _ _) rfl (Sees.of rfl) rfl)) rfl rfl rfl rfl) ?_
                    refine snil ?_
                    refine f_nil ?_
                    show AWs _ _ _ _ _
                    refine f_nil ?_
                    show AWs _ _ _ _ _
                    refine f_region ?_
                    refine scons (CStep.step (PStep.c (p_move (y := .val _) rfl (Sees.of rfl) rfl)) rfl rfl rfl rfl) ?_
                    refine scons (CStep.step (PStep.c (p_add rfl (Sees.of rfl) (Sees.of rfl) (by omega))) rfl rfl rfl rfl) ?_
                    refine scons (CStep.step (PStep.c (p_assign (y := .val _) rfl (Sees.of rfl) rfl)) rfl rfl rfl rfl) ?_
                    refine snil ?_
                    refine f_back ⟨(i + 1, u + 1), ?_, ?_, le_ofL ⟨rfl, rfl, (by rw [Sp.prt_snoc (by omega) (Sp.prt_lo hc6 (by simpa using hc7) hc8)]; rfl), rfl, rfl, rfl, rfl, rfl, rfl, rfl, rfl, trivial⟩ rfl⟩
                    · show i + 1 ≤ _
                      omega
                    · show _ - (i + 1) < _ - i
                      omega
            · intro hc5
              try simp only [bs] at hc5
              refine f_exit ?_
              show AWs _ _ _ _ _
              refine f_seq ?_
              refine f_region ?_
              refine scons (CStep.step (PStep.c (p_move (y := .row _ _) rfl (Sees.of rfl) rfl)) rfl rfl rfl rfl) ?_
              refine scons (CStep.step (PStep.c (p_assign (y := .row _ _) rfl (Sees.of rfl) rfl)) rfl rfl rfl rfl) ?_
              refine snil ?_
              refine f_ret ?_
              refine endsN_ret (resN_eq (resN_row rfl rfl rfl rfl) ?_)
              obtain rfl : i = l.length := by omega
              rfl

end Go.Um
