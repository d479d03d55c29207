/- Walks of Go functions of this seat, each by its contract. No condition beyond what each theorem says. -/
import Derived.Test.YtmpnbklgbehplaaFlow
import Derived.Test.YtmpnbklgbehplaaWCard
import Derived.Test.YtmpnbklgbehplaaSp5
import Derived.Test.YtmpnbklgbehplaaProg
import Derived.KernelRfl
set_option maxRecDepth 4000
namespace Go.Um
open Go Go.RowKit

theorem wCardM_agg22 : IsAgg Go.Proofs.Try.prog 22 false := by unfold IsAgg; kernel_rfl
theorem wCardM_agg3 : IsAgg Go.Proofs.Try.prog 3 false := by unfold IsAgg; kernel_rfl
theorem wCardM_agg37 : IsAgg Go.Proofs.Try.prog 37 true := by unfold IsAgg; kernel_rfl
theorem wCardM_byt3 : Bytes Go.Proofs.Try.prog 3 8 := by unfold Bytes; kernel_rfl
theorem wCardM_fld37_0 : IsField Go.Proofs.Try.prog 37 0 0 22 := by unfold IsField; kernel_rfl
theorem wCardM_fld37_1 : IsField Go.Proofs.Try.prog 37 1 1 22 := by unfold IsField; kernel_rfl
theorem wCardM_isf57 : IsFn Go.Proofs.Try.prog 57 := by unfold IsFn; kernel_rfl
theorem wCardM_isl22 : IsSlice Go.Proofs.Try.prog 22 3 := by unfold IsSlice; kernel_rfl
theorem wCardM_mix : (Go.Proofs.Try.prog).follows .mixedOrders = true := by kernel_rfl
theorem wCardM_siz22 : Size Go.Proofs.Try.prog 22 1 := by unfold Size; kernel_rfl
theorem wCardM_siz3 : Size Go.Proofs.Try.prog 3 1 := by unfold Size; kernel_rfl
theorem wCardM_siz37 : Size Go.Proofs.Try.prog 37 3 := by unfold Size; kernel_rfl
theorem wCardM_zer3 : Zero Go.Proofs.Try.prog 3 (.int .i64 0) := by unfold Zero; kernel_rfl
theorem wCardM_zer37 : Zero Go.Proofs.Try.prog 37 (.agg #[(.slice none 0 0), (.slice none 0 0), (.int .i64 0)]) := by unfold Zero; kernel_rfl

theorem AskedR_spec (ls : List (List Int)) (l : List Int) (hF : ∀ c ∈ ls, Sp.Fine c) (hB : l.length + Sp.room ls l ≤ 1000000000) :
    Spec Go.Proofs.Try.prog 19 [.val (intss ls), .val (ints l)] (trail (Sp.on ls l (List.replicate l.length (-1))).1 (Sp.on ls l (List.replicate l.length (-1))).2.1 (Sp.on ls l (List.replicate l.length (-1))).2.2) := by
  refine spec_of' Go.Proofs.Try.func19 rfl Go.Proofs.Try.ntmps19 rfl ?_
  refine f_seq ?_
  refine f_region ?_
  refine scons (r_alloc (ob := 10004) rfl wCardM_zer37 rfl rfl rfl rfl rfl rfl) ?_
  refine snil ?_
  refine f_seq ?_
  refine f_region ?_
  refine scons (r_alloc (ob := 10005) rfl wCardM_zer37 rfl rfl rfl rfl rfl rfl) ?_
  refine snil ?_
  refine f_seq ?_
  refine f_seq ?_
  refine f_region ?_
  refine scons (CStep.step (PStep.c (p_assign (y := .val _) rfl (Sees.of rfl) rfl)) rfl rfl rfl rfl) ?_
  refine snil ?_
  refine f_block ?_
  refine f_loop (α := Nat × Nat × Nat) (fun (i, u, v) => i ≤ l.length) (fun (i, u, v) => [(6, iv i), (10005, .box 0 (.ccons (.row 20000 u) (.ccons (.row 20001 v) (.ccons (iv 0) .cnil)))), (20000, .arr u 3 1 8 di 0 (l.take i)), (20001, .arr v 3 1 8 di 0 (List.replicate i (-1))), (0, .val (intss ls)), (1, .val (ints l)), (4, .ref 10004 0 0), (5, .ref 10005 0 0), (10004, .box 0 (.ccons (.emp) (.ccons (.emp) (.ccons (iv 0) .cnil))))]) (fun (i, u, v) => l.length - i) (0, 0, 0) ?_ ?_ ?_
  · exact Nat.zero_le _
  · exact Le.trans (GLe.le (g_adoptB (ob := 10005) (off := 0) (o1 := 20000) 3 1 8 di 0 rfl rfl rfl rfl rfl rfl rfl)) (Le.trans (GLe.le (g_adoptB (ob := 10005) (off := 1) (o1 := 20001) 3 1 8 di 0 rfl rfl rfl rfl rfl rfl rfl)) (le_ofL ⟨rfl, rfl, rfl, rfl, rfl, rfl, rfl, rfl, rfl, trivial⟩ rfl))
  · rintro ⟨i, u, v⟩ hi
    have hi : i ≤ l.length := hi
    refine f_seq ?_
    refine f_seq ?_
    refine f_region ?_
    refine scons (CStep.step (PStep.c (p_move (y := .val _) rfl (Sees.of rfl) rfl)) rfl rfl rfl rfl) ?_
    refine scons (CStep.step (PStep.c (p_move (y := .val _) rfl (Sees.of rfl) rfl)) rfl rfl rfl rfl) ?_
    refine scons (CStep.step (PStep.c (p_len rfl wCardM_isl22 (Sees.of rfl))) rfl rfl rfl rfl) ?_
    refine scons (CStep.step (PStep.c (p_lss rfl (Sees.of rfl) (Sees.of rfl))) rfl rfl rfl rfl) ?_
    refine snil ?_
    refine f_cond rfl ?_ ?_
    · intro hc1
      try simp only [bs] at hc1
      refine f_skip ?_
      refine f_seq ?_
      refine f_block ?_
      refine f_seq ?_
      refine f_draw wCardM_mix (by kernel_rfl) ?_
      refine dcons (CStep.step (PStep.c (p_fieldRef rfl wCardM_fld37_0 wCardM_siz22 rfl (Sees.of rfl) rfl)) rfl rfl rfl rfl) ?_
      refine dcons (CStep.step (PStep.c (p_loadB (y := .row _ _) rfl wCardM_agg22 (Sees.of rfl) rfl rfl rfl rfl)) rfl rfl rfl rfl) ?_
      refine dcons (CStep.step (PStep.c (p_move (y := .val _) rfl (Sees.of rfl) rfl)) rfl rfl rfl rfl) ?_
      refine dcons (CStep.step (PStep.c (p_move (y := .val _) rfl (Sees.of rfl) rfl)) rfl rfl rfl rfl) ?_
      refine dcons (CStep.step (PStep.c ((by first | exact p_indexN rfl wCardM_isl22 wCardM_siz3 (Sees.of rfl) (Sees.of rfl) (by omega) | exact p_index rfl wCardM_isl22 wCardM_siz3 (Sees.of rfl) (Sees.of rfl) (by omega) (by omega)))) rfl rfl rfl rfl) ?_
      refine dcons (CStep.step (PStep.c (p_load rfl wCardM_agg3 (Sees.of rfl) rfl)) rfl rfl rfl rfl) ?_
      refine dcons (CStep.step (c_buildSlice (f := di) (za := 0) (xs := [.tmp 18]) rfl rfl wCardM_isl22 wCardM_siz3 wCardM_zer3 rfl rfl ⟨_, _, rfl, (Sees.of rfl), rfl, rfl, rfl⟩) rfl rfl rfl rfl) ?_
      refine dcons (r_appendR (ob := 20000) rfl wCardM_isl22 wCardM_siz3 wCardM_byt3 wCardM_zer3 rfl rfl (Sees.of rfl) rfl (Sees.of rfl) (by simp only [List.length_take, List.length_cons, List.length_nil]; omega) (by simp only [List.length_take, List.length_cons, List.length_nil]; omega) rfl rfl rfl rfl rfl) ?_
      refine dcons (CStep.step (PStep.c (p_fieldRef rfl wCardM_fld37_0 wCardM_siz22 rfl (Sees.of rfl) rfl)) rfl rfl rfl rfl) ?_
      refine dcons (r_storeR rfl wCardM_siz22 rfl rfl rfl (Sees.of rfl) rfl rfl (Sees.of rfl) rfl) ?_
      refine dnil (by kernel_rfl) ?_
      refine f_region ?_
      refine scons (CStep.step (PStep.c (p_fieldRef rfl wCardM_fld37_1 wCardM_siz22 rfl (Sees.of rfl) rfl)) rfl rfl rfl rfl) ?_
      refine scons (CStep.step (PStep.c (p_loadB (y := .row _ _) rfl wCardM_agg22 (Sees.of rfl) rfl rfl rfl rfl)) rfl rfl rfl rfl) ?_
      refine scons (CStep.step (c_buildSlice (f := di) (za := 0) (xs := [.const (.int .i64 (-1))]) rfl rfl wCardM_isl22 wCardM_siz3 wCardM_zer3 rfl rfl ⟨_, _, rfl, (Sees.of rfl), rfl, rfl, rfl⟩) rfl rfl rfl rfl) ?_
      refine scons (r_appendR (ob := 20001) rfl wCardM_isl22 wCardM_siz3 wCardM_byt3 wCardM_zer3 rfl rfl (Sees.of rfl) rfl (Sees.of rfl) (by simp only [List.length_replicate, List.length_cons, List.length_nil]; omega) (by simp only [List.length_replicate, List.length_cons, List.length_nil]; omega) rfl rfl rfl rfl rfl) ?_
      refine scons (CStep.step (PStep.c (p_fieldRef rfl wCardM_fld37_1 wCardM_siz22 rfl (Sees.of rfl) rfl)) rfl rfl rfl rfl) ?_
      refine scons (r_storeR rfl wCardM_siz22 rfl rfl rfl (Sees.of rfl) rfl rfl (Sees.of rfl) rfl) ?_
      refine snil ?_
      refine f_nil ?_
      show AWs _ _ _ _ _
      refine f_region ?_
      refine scons (CStep.step (PStep.c (p_move (y := .val _) rfl (Sees.of rfl) rfl)) rfl rfl rfl rfl) ?_
      refine scons (CStep.step (PStep.c (p_add rfl (Sees.of rfl) (Sees.of rfl) (by omega))) rfl rfl rfl rfl) ?_
      refine scons (CStep.step (PStep.c (p_assign (y := .val _) rfl (Sees.of rfl) rfl)) rfl rfl rfl rfl) ?_
      refine snil ?_
      refine f_back ⟨(i + 1, u + 1, v + 1), ?_, ?_, le_ofL ⟨rfl, rfl, (by rw [Sp.take_getD l i 0 (by omega)]; rfl), (by rw [List.replicate_succ']; rfl), rfl, rfl, rfl, rfl, rfl, trivial⟩ rfl⟩
      · show i + 1 ≤ l.length
        omega
      · show l.length - (i + 1) < l.length - i
        omega
    · intro hc1
      try simp only [bs] at hc1
      refine f_exit ?_
      show AWs _ _ _ _ _
      refine f_seq ?_
      obtain rfl : i = l.length := by omega
      refine f_le (GLe.le (g_freezeB (ob := 10005) (off := 0) (o1 := 20000) rfl rfl rfl rfl rfl rfl rfl)) ?_ (by simp)
      refine f_le (GLe.le (g_freezeB (ob := 10005) (off := 1) (o1 := 20001) rfl rfl rfl rfl rfl rfl rfl)) ?_ (by simp)
      refine f_region ?_
      refine scons (CStep.step (PStep.c (p_move (y := .val _) rfl (Sees.of rfl) rfl)) rfl rfl rfl rfl) ?_
      refine scons (CStep.step (PStep.c (p_loadBS rfl wCardM_agg37 wCardM_siz37 (Sees.of rfl) rfl rfl rfl)) rfl rfl rfl rfl) ?_
      refine scons (CStep.step (c_call rfl wCardM_isf57 ⟨_, _, rfl, (Sees.of rfl), rfl, ⟨_, _, rfl, (Sees.of rfl), rfl, rfl⟩⟩ (on_spec ls (l.take l.length) (List.replicate l.length (-1)) 0 hF (by rw [List.take_length]; exact hB) (by rw [List.take_length, List.length_replicate]; exact hB))) rfl rfl rfl rfl) ?_
      refine scons (r_storeS rfl wCardM_siz37 rfl rfl rfl (Sees.of rfl) rfl (Sees.of rfl) rfl rfl rfl rfl) ?_
      refine snil ?_
      refine f_ret ?_
      refine ends_ret (res_eq (res1 rfl (res_cell (by rfl) rfl rfl wCardM_agg37 wCardM_siz37 rfl rfl)) ?_)
      rw [List.take_length]
      all_goals rfl

end Go.Um
