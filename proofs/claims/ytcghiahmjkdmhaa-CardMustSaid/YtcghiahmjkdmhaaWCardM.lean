/- Walks of Go functions of this seat, each by its contract. No condition beyond what each theorem says. -/
import Derived.Test.YtcghiahmjkdmhaaFlow
import Derived.Test.YtcghiahmjkdmhaaWCard
import Derived.Test.YtcghiahmjkdmhaaSp5
import Derived.Test.YtcghiahmjkdmhaaProg
import Derived.KernelRfl
set_option maxRecDepth 4000
namespace Go.Um
open Go Go.RowKit

theorem wCardM_agg26 : IsAgg Go.Proofs.Try.prog 26 false := by unfold IsAgg; kernel_rfl
theorem wCardM_agg3 : IsAgg Go.Proofs.Try.prog 3 false := by unfold IsAgg; kernel_rfl
theorem wCardM_agg36 : IsAgg Go.Proofs.Try.prog 36 false := by unfold IsAgg; kernel_rfl
theorem wCardM_agg38 : IsAgg Go.Proofs.Try.prog 38 true := by unfold IsAgg; kernel_rfl
theorem wCardM_agg50 : IsAgg Go.Proofs.Try.prog 50 true := by unfold IsAgg; kernel_rfl
theorem wCardM_byt3 : Bytes Go.Proofs.Try.prog 3 8 := by unfold Bytes; kernel_rfl
theorem wCardM_fld24_0 : IsField Go.Proofs.Try.prog 24 0 0 3 := by unfold IsField; kernel_rfl
theorem wCardM_fld38_0 : IsField Go.Proofs.Try.prog 38 0 0 3 := by unfold IsField; kernel_rfl
theorem wCardM_fld38_1 : IsField Go.Proofs.Try.prog 38 1 1 36 := by unfold IsField; kernel_rfl
theorem wCardM_fld50_0 : IsField Go.Proofs.Try.prog 50 0 0 26 := by unfold IsField; kernel_rfl
theorem wCardM_fld50_1 : IsField Go.Proofs.Try.prog 50 1 1 26 := by unfold IsField; kernel_rfl
theorem wCardM_fld50_2 : IsField Go.Proofs.Try.prog 50 2 2 3 := by unfold IsField; kernel_rfl
theorem wCardM_int3 : IsInt Go.Proofs.Try.prog 3 .i64 := by unfold IsInt; kernel_rfl
theorem wCardM_int43 : IsInt Go.Proofs.Try.prog 43 .u64 := by unfold IsInt; kernel_rfl
theorem wCardM_int5 : IsInt Go.Proofs.Try.prog 5 .u8 := by unfold IsInt; kernel_rfl
theorem wCardM_isf20 : IsFn Go.Proofs.Try.prog 20 := by unfold IsFn; kernel_rfl
theorem wCardM_isf22 : IsFn Go.Proofs.Try.prog 22 := by unfold IsFn; kernel_rfl
theorem wCardM_isf26 : IsFn Go.Proofs.Try.prog 26 := by unfold IsFn; kernel_rfl
theorem wCardM_isf27 : IsFn Go.Proofs.Try.prog 27 := by unfold IsFn; kernel_rfl
theorem wCardM_isf60 : IsFn Go.Proofs.Try.prog 60 := by unfold IsFn; kernel_rfl
theorem wCardM_isl26 : IsSlice Go.Proofs.Try.prog 26 3 := by unfold IsSlice; kernel_rfl
theorem wCardM_isl36 : IsSlice Go.Proofs.Try.prog 36 26 := by unfold IsSlice; kernel_rfl
theorem wCardM_mix : (Go.Proofs.Try.prog).follows .mixedOrders = true := by kernel_rfl
theorem wCardM_siz24 : Size Go.Proofs.Try.prog 24 2 := by unfold Size; kernel_rfl
theorem wCardM_siz26 : Size Go.Proofs.Try.prog 26 1 := by unfold Size; kernel_rfl
theorem wCardM_siz3 : Size Go.Proofs.Try.prog 3 1 := by unfold Size; kernel_rfl
theorem wCardM_siz36 : Size Go.Proofs.Try.prog 36 1 := by unfold Size; kernel_rfl
theorem wCardM_siz38 : Size Go.Proofs.Try.prog 38 2 := by unfold Size; kernel_rfl
theorem wCardM_siz50 : Size Go.Proofs.Try.prog 50 3 := by unfold Size; kernel_rfl
theorem wCardM_zer24 : Zero Go.Proofs.Try.prog 24 (.agg #[(.int .i64 0), (.int .i64 0)]) := by unfold Zero; kernel_rfl
theorem wCardM_zer3 : Zero Go.Proofs.Try.prog 3 (.int .i64 0) := by unfold Zero; kernel_rfl
theorem wCardM_zer38 : Zero Go.Proofs.Try.prog 38 (.agg #[(.int .i64 0), (.slice none 0 0)]) := by unfold Zero; kernel_rfl
theorem wCardM_zer50 : Zero Go.Proofs.Try.prog 50 (.agg #[(.slice none 0 0), (.slice none 0 0), (.int .i64 0)]) := by unfold Zero; kernel_rfl

theorem AskedR_spec (ls : List (List Int)) (l : List Int) (hF : ∀ c ∈ ls, Sp.Fine c) (hB : l.length + Sp.room ls l ≤ 1000000000) :
    Spec Go.Proofs.Try.prog 26 [.val (intss ls), .val (ints l)] (trail (Sp.on ls l (List.replicate l.length (-1))).1 (Sp.on ls l (List.replicate l.length (-1))).2.1 (Sp.on ls l (List.replicate l.length (-1))).2.2) := by
  refine spec_of' Go.Proofs.Try.func26 rfl Go.Proofs.Try.ntmps26 rfl ?_
  refine f_seq ?_
  refine f_region ?_
  refine scons (r_alloc (ob := 10004) rfl wCardM_zer50 rfl rfl rfl rfl rfl rfl) ?_
  refine snil ?_
  refine f_seq ?_
  refine f_region ?_
  refine scons (r_alloc (ob := 10005) rfl wCardM_zer50 rfl rfl rfl rfl rfl rfl) ?_
  refine snil ?_
  refine f_seq ?_
  refine f_seq ?_
  refine f_region ?_
  refine scons (CStep.step (PStep.c (p_assign (y := .val _) rfl (Sees.of rfl) rfl)) rfl rfl rfl rfl) ?_
  refine snil ?_
  refine f_block ?_
  refine f_loop (α := Nat × Nat × Nat) (fun (i, u, v) => i ≤ l.length) (fun (i, u, v) => [(6, iv i), (10005, .box 0 (.ccons (.row 20000 u) (.ccons (.row 20001 v) (.ccons (iv 0) .cnil)))), (20000, .arr u 3 1 8 di 0 (l.take i)), (20001, .arr v 3 1 8 di 0 (List.replicate i (-1))), (0, .val (intss ls)), (1, .val (ints l)), (4, .ref 10004 0 0), (5, .ref 10005 0 0), (10004, .box 0 (.ccons (.emp) (.ccons (.emp) (.ccons (iv 0) .cnil))))]) (fun (i, u, v) => l.length - i) (0, 0, 0) ?_ ?_ ?_
  · exact Nat.zero_le _
  · exact Le.trans (GLe.le (g_adoptB (ob := 10005) (off := 0) (o1 := 20000) 3 1 8 di 0 rfl rfl rfl rfl rfl rfl rfl)) (Le.trans (GLe.le (g_adoptB (ob := 10005) (off := 1) (o1 := 20001) 3 1 8 di 0 rfl rfl rfl rfl rfl rfl rfl)) (le_ofL ⟨rfl, rfl, rfl, rfl, rfl, rfl, rfl, rfl, rfl, trivial⟩ rfl))
  · rintro ⟨i, u, v⟩ hi
    have hi : i ≤ l.length := hi
    refine f_seq ?_
    refine f_seq ?_
    refine f_region ?_
    refine scons (CStep.step (PStep.c (p_move (y := .val _) rfl (Sees.of rfl) rfl)) rfl rfl rfl rfl) ?_
    refine scons (CStep.step (PStep.c (p_move (y := .val _) rfl (Sees.of rfl) rfl)) rfl rfl rfl rfl) ?_
    refine scons (CStep.step (PStep.c (p_len rfl wCardM_isl26 (Sees.of rfl))) rfl rfl rfl rfl) ?_
    refine scons (CStep.step (PStep.c (p_lss rfl (Sees.of rfl) (Sees.of rfl))) rfl rfl rfl rfl) ?_
    refine snil ?_
    refine f_cond rfl ?_ ?_
    · intro hc1
      try simp only [bs] at hc1
      refine f_skip ?_
      refine f_seq ?_
      refine f_block ?_
      refine f_seq ?_
      refine f_draw wCardM_mix (by kernel_rfl) ?_
      refine dcons (CStep.step (PStep.c (p_fieldRef rfl wCardM_fld50_0 wCardM_siz26 rfl (Sees.of rfl) rfl)) rfl rfl rfl rfl) ?_
      refine dcons (CStep.step (PStep.c (p_loadB (y := .row _ _) rfl wCardM_agg26 (Sees.of rfl) rfl rfl rfl rfl)) rfl rfl rfl rfl) ?_
      refine dcons (CStep.step (PStep.c (p_move (y := .val _) rfl (Sees.of rfl) rfl)) rfl rfl rfl rfl) ?_
      refine dcons (CStep.step (PStep.c (p_move (y := .val _) rfl (Sees.of rfl) rfl)) rfl rfl rfl rfl) ?_
      refine dcons (CStep.step (PStep.c ((by first | exact p_indexN rfl wCardM_isl26 wCardM_siz3 (Sees.of rfl) (Sees.of rfl) (by omega) | exact p_index rfl wCardM_isl26 wCardM_siz3 (Sees.of rfl) (Sees.of rfl) (by omega) (by omega)))) rfl rfl rfl rfl) ?_
      refine dcons (CStep.step (PStep.c (p_load rfl wCardM_agg3 (Sees.of rfl) rfl)) rfl rfl rfl rfl) ?_
      refine dcons (CStep.step (c_buildSlice (f := di) (za := 0) (xs := [.tmp 18]) rfl rfl wCardM_isl26 wCardM_siz3 wCardM_zer3 rfl rfl ⟨_, _, rfl, (Sees.of rfl), rfl, rfl, rfl⟩) rfl rfl rfl rfl) ?_
      refine dcons (r_appendR (ob := 20000) rfl wCardM_isl26 wCardM_siz3 wCardM_byt3 wCardM_zer3 rfl rfl (Sees.of rfl) rfl (Sees.of rfl) (by simp only [List.length_take, List.length_cons, List.length_nil]; omega) (by simp only [List.length_take, List.length_cons, List.length_nil]; omega) rfl rfl rfl rfl rfl) ?_
      refine dcons (CStep.step (PStep.c (p_fieldRef rfl wCardM_fld50_0 wCardM_siz26 rfl (Sees.of rfl) rfl)) rfl rfl rfl rfl) ?_
      refine dcons (r_storeR rfl wCardM_siz26 rfl rfl rfl (Sees.of rfl) rfl rfl (Sees.of rfl) rfl) ?_
      refine dnil (by kernel_rfl) ?_
      refine f_region ?_
      refine scons (CStep.step (PStep.c (p_fieldRef rfl wCardM_fld50_1 wCardM_siz26 rfl (Sees.of rfl) rfl)) rfl rfl rfl rfl) ?_
      refine scons (CStep.step (PStep.c (p_loadB (y := .row _ _) rfl wCardM_agg26 (Sees.of rfl) rfl rfl rfl rfl)) rfl rfl rfl rfl) ?_
      refine scons (CStep.step (c_buildSlice (f := di) (za := 0) (xs := [.const (.int .i64 (-1))]) rfl rfl wCardM_isl26 wCardM_siz3 wCardM_zer3 rfl rfl ⟨_, _, rfl, (Sees.of rfl), rfl, rfl, rfl⟩) rfl rfl rfl rfl) ?_
      refine scons (r_appendR (ob := 20001) rfl wCardM_isl26 wCardM_siz3 wCardM_byt3 wCardM_zer3 rfl rfl (Sees.of rfl) rfl (Sees.of rfl) (by simp only [List.length_replicate, List.length_cons, List.length_nil]; omega) (by simp only [List.length_replicate, List.length_cons, List.length_nil]; omega) rfl rfl rfl rfl rfl) ?_
      refine scons (CStep.step (PStep.c (p_fieldRef rfl wCardM_fld50_1 wCardM_siz26 rfl (Sees.of rfl) rfl)) rfl rfl rfl rfl) ?_
      refine scons (r_storeR rfl wCardM_siz26 rfl rfl rfl (Sees.of rfl) rfl rfl (Sees.of rfl) rfl) ?_
      refine snil ?_
      refine f_nil ?_
      show AWs _ _ _ _ _
      refine f_region ?_
      refine scons (CStep.step (PStep.c (p_move (y := .val _) rfl (Sees.of rfl) rfl)) rfl rfl rfl rfl) ?_
      refine scons (CStep.step (PStep.c (p_add rfl (Sees.of rfl) (Sees.of rfl) (by omega))) rfl rfl rfl rfl) ?_
      refine scons (CStep.step (PStep.c (p_assign (y := .val _) rfl (Sees.of rfl) rfl)) rfl rfl rfl rfl) ?_
      refine snil ?_
      refine f_back ⟨(i + 1, u + 1, v + 1), ?_, ?_, le_ofL ⟨rfl, rfl, (by rw [Sp.take_getD l i 0 (by omega)]; rfl), (by rw [List.replicate_succ']; rfl), rfl, rfl, rfl, rfl, rfl, trivial⟩ rfl⟩
      · show i + 1 ≤ l.length
        omega
      · show l.length - (i + 1) < l.length - i
        omega
    · intro hc1
      try simp only [bs] at hc1
      refine f_exit ?_
      show AWs _ _ _ _ _
      refine f_seq ?_
      obtain rfl : i = l.length := by omega
      refine f_le (GLe.le (g_freezeB (ob := 10005) (off := 0) (o1 := 20000) rfl rfl rfl rfl rfl rfl rfl)) ?_ (by simp)
      refine f_le (GLe.le (g_freezeB (ob := 10005) (off := 1) (o1 := 20001) rfl rfl rfl rfl rfl rfl rfl)) ?_ (by simp)
      refine f_region ?_
      refine scons (CStep.step (PStep.c (p_move (y := .val _) rfl (Sees.of rfl) rfl)) rfl rfl rfl rfl) ?_
      refine scons (CStep.step (PStep.c (p_loadBS rfl wCardM_agg50 wCardM_siz50 (Sees.of rfl) rfl rfl rfl)) rfl rfl rfl rfl) ?_
      refine scons (CStep.step (c_call rfl wCardM_isf60 ⟨_, _, rfl, (Sees.of rfl), rfl, ⟨_, _, rfl, (Sees.of rfl), rfl, rfl⟩⟩ (on_spec ls (l.take l.length) (List.replicate l.length (-1)) 0 hF (by rw [List.take_length]; exact hB) (by rw [List.take_length, List.length_replicate]; exact hB))) rfl rfl rfl rfl) ?_
      refine scons (r_storeS rfl wCardM_siz50 rfl rfl rfl (Sees.of rfl) rfl (Sees.of rfl) rfl rfl rfl rfl) ?_
      refine snil ?_
      refine f_ret ?_
      refine ends_ret (res_eq (res1 rfl (res_cell (by rfl) rfl rfl wCardM_agg50 wCardM_siz50 rfl rfl)) ?_)
      rw [List.take_length]
      all_goals rfl

theorem CardMust_spec (n : Int) (l : List Int) (k w : Int) (hk : 0 ≤ k ∧ k ≤ 255) (hw : 0 ≤ w ∧ w ≤ 255) :
    Spec Go.Proofs.Try.prog 6 [iv n, .val (ints l), .val (.int .u8 k), .val (.int .u8 w)] (D.bool true) := by
  refine spec_of' Go.Proofs.Try.func6 rfl Go.Proofs.Try.ntmps6 rfl ?_
  refine f_seq ?_
  refine f_region ?_
  refine scons (CStep.step (PStep.c (p_assign (y := .val _) rfl (Sees.of rfl) rfl)) rfl rfl rfl rfl) ?_
  refine snil ?_
  refine f_seq ?_
  refine f_region ?_
  refine scons (CStep.step (PStep.c (p_move (y := .val _) rfl (Sees.of rfl) rfl)) rfl rfl rfl rfl) ?_
  refine scons (CStep.step (PStep.c (p_conv64 rfl wCardM_int5 wCardM_int3 (Sees.of rfl) (by omega))) rfl rfl rfl rfl) ?_
  refine scons (CStep.step (PStep.c (p_remN rfl (Sees.of rfl) (Sees.of rfl) (by omega) (by omega))) rfl rfl rfl rfl) ?_
  refine scons (CStep.step (PStep.c (p_assign (y := .val _) rfl (Sees.of rfl) rfl)) rfl rfl rfl rfl) ?_
  refine snil ?_
  refine f_seq ?_
  refine f_region ?_
  refine scons (CStep.step (PStep.c (p_move (y := .val _) rfl (Sees.of rfl) rfl)) rfl rfl rfl rfl) ?_
  refine scons (CStep.step (PStep.c (p_move (y := .val _) rfl (Sees.of rfl) rfl)) rfl rfl rfl rfl) ?_
  refine scons (CStep.step (PStep.c (p_move (y := .val _) rfl (Sees.of rfl) rfl)) rfl rfl rfl rfl) ?_
  refine scons (CStep.step (c_call rfl wCardM_isf20 ⟨_, _, rfl, (Sees.of rfl), rfl, ⟨_, _, rfl, (Sees.of rfl), rfl, ⟨_, _, rfl, (Sees.of rfl), rfl, rfl⟩⟩⟩ (most_spec n l (k % 9))) rfl rfl rfl rfl) ?_
  refine scons (CStep.step (PStep.c (p_move (y := .val _) rfl (Sees.of rfl) rfl)) rfl rfl rfl rfl) ?_
  refine scons (CStep.step (PStep.c (p_extract rfl (Sees.of rfl) rfl)) rfl rfl rfl rfl) ?_
  refine scons (CStep.step (PStep.c (p_extract rfl (Sees.of rfl) rfl)) rfl rfl rfl rfl) ?_
  refine scons (r_alloc (ob := 10010) rfl wCardM_zer38 rfl rfl rfl rfl rfl rfl) ?_
  refine scons (r_alloc (ob := 10011) rfl wCardM_zer24 rfl rfl rfl rfl rfl rfl) ?_
  refine scons (r_storeS rfl wCardM_siz38 rfl rfl rfl (Sees.of rfl) rfl (Sees.of rfl) rfl rfl rfl rfl) ?_
  refine scons (r_storeS rfl wCardM_siz24 rfl rfl rfl (Sees.of rfl) rfl (Sees.of rfl) rfl rfl rfl rfl) ?_
  refine snil ?_
  refine f_seq ?_
  refine f_seq ?_
  refine f_region ?_
  refine scons (CStep.step (PStep.c (p_fieldRef rfl wCardM_fld24_0 wCardM_siz3 rfl (Sees.of rfl) rfl)) rfl rfl rfl rfl) ?_
  refine scons (CStep.step (PStep.c (p_loadB (y := .val _) rfl wCardM_agg3 (Sees.of rfl) rfl rfl rfl rfl)) rfl rfl rfl rfl) ?_
  refine scons (CStep.step (PStep.c (p_neq rfl (Sees.of rfl) (Sees.of rfl))) rfl rfl rfl rfl) ?_
  refine snil ?_
  refine f_cond rfl ?_ ?_
  · intro hc1
    try simp only [bs] at hc1
    refine f_seq ?_
    refine f_region ?_
    refine scons (CStep.step (PStep.c (p_fieldRef rfl wCardM_fld38_0 wCardM_siz3 rfl (Sees.of rfl) rfl)) rfl rfl rfl rfl) ?_
    refine scons (CStep.step (PStep.c (p_loadB (y := .val _) rfl wCardM_agg3 (Sees.of rfl) rfl rfl rfl rfl)) rfl rfl rfl rfl) ?_
    refine scons (CStep.step (PStep.c (p_eql rfl (Sees.of rfl) (Sees.of rfl))) rfl rfl rfl rfl) ?_
    refine scons (CStep.step (PStep.c (p_move (y := .val _) rfl (Sees.of rfl) rfl)) rfl rfl rfl rfl) ?_
    refine scons (CStep.guard rfl rfl rfl (fun hg0 => PStep.c (p_fieldRef rfl wCardM_fld38_1 wCardM_siz36 rfl (Sees.of rfl) rfl)) rfl rfl rfl rfl rfl) ?_
    refine scons (CStep.guard rfl rfl rfl (fun hg0 => PStep.c (p_loadB (y := .val _) rfl wCardM_agg36 (Sees.gv' rfl hg0) rfl rfl rfl rfl)) rfl rfl rfl rfl rfl) ?_
    refine scons (CStep.guard rfl rfl rfl (fun hg0 => PStep.c (p_len rfl wCardM_isl36 (Sees.gv' rfl hg0))) rfl rfl rfl rfl rfl) ?_
    refine scons (CStep.guard rfl rfl rfl (fun hg0 => PStep.c (p_eql rfl (Sees.gv' rfl hg0) (Sees.of rfl))) rfl rfl rfl rfl rfl) ?_
    refine scons (CStep.step (PStep.c (p_and rfl (Sees.of rfl) (fun h => Sees.gv' rfl (beq_of_eq h)) (Sees.of rfl))) rfl rfl rfl rfl) ?_
    refine scons (CStep.step (PStep.c (p_assign (y := .val _) rfl (Sees.of rfl) rfl)) rfl rfl rfl rfl) ?_
    refine snil ?_
    refine f_ret ?_
    refine ends_ret (res_eq (res1 rfl (res_tmp rfl (Sees.of rfl))) ?_)
    have e := Sp.most_bad hc1
    rw [e]
    rfl
  · intro hc1
    try simp only [bs] at hc1
    obtain ⟨hcnt, e⟩ := Sp.most_good hc1
    have hco := Sp.counted_ok hcnt
    have hwl := Sp.card_wrong hco.1
    have ech : Sp.check n (Sp.some (Sp.negs l) (k % 9 + 1)) = (0, 0) := Sp.some_check (by omega) (by rw [Sp.negs, List.length_map]; omega) (Sp.wrong_negs hwl)
    have huse := Sp.check_use' (n := n) (ls := (Sp.some (Sp.negs l) (k % 9 + 1))) (by rw [ech])
    have hnd := Sp.nodup_of (Sp.wrong_iff.1 hwl).2
    rw [e]
    refine f_skip ?_
    refine f_seq ?_
    refine f_region ?_
    refine scons (CStep.step (c_buildSlice (f := di) (za := 0) (xs := [.const (.int .i64 1), .const (.int .i64 2)]) rfl rfl wCardM_isl26 wCardM_siz3 wCardM_zer3 rfl rfl ⟨_, _, rfl, (Sees.of rfl), rfl, rfl, ⟨_, _, rfl, (Sees.of rfl), rfl, rfl, rfl⟩⟩) rfl rfl rfl rfl) ?_
    refine scons (CStep.step (c_call rfl wCardM_isf20 ⟨_, _, rfl, (Sees.of rfl), rfl, ⟨_, _, rfl, (Sees.of rfl), rfl, ⟨_, _, rfl, (Sees.of rfl), rfl, rfl⟩⟩⟩ (most_spec 2 [1, 2] 1)) rfl rfl rfl rfl) ?_
    refine scons (CStep.step (PStep.c (p_move (y := .val _) rfl (Sees.of rfl) rfl)) rfl rfl rfl rfl) ?_
    refine scons (CStep.step (PStep.c (p_extract rfl (Sees.of rfl) rfl)) rfl rfl rfl rfl) ?_
    refine scons (CStep.step (PStep.c (p_extract rfl (Sees.of rfl) rfl)) rfl rfl rfl rfl) ?_
    refine scons (r_alloc (ob := 10012) rfl wCardM_zer38 rfl rfl rfl rfl rfl rfl) ?_
    refine scons (r_alloc (ob := 10013) rfl wCardM_zer24 rfl rfl rfl rfl rfl rfl) ?_
    refine scons (r_storeS rfl wCardM_siz38 rfl rfl rfl (Sees.of rfl) rfl (Sees.of rfl) rfl rfl rfl rfl) ?_
    refine scons (r_storeS rfl wCardM_siz24 rfl rfl rfl (Sees.of rfl) rfl (Sees.of rfl) rfl rfl rfl rfl) ?_
    refine snil ?_
    refine f_seq ?_
    refine f_seq ?_
    refine f_region ?_
    refine scons (CStep.step (PStep.c (p_fieldRef rfl wCardM_fld24_0 wCardM_siz3 rfl (Sees.of rfl) rfl)) rfl rfl rfl rfl) ?_
    refine scons (CStep.step (PStep.c (p_loadB (y := .val _) rfl wCardM_agg3 (Sees.of rfl) rfl rfl rfl rfl)) rfl rfl rfl rfl) ?_
    refine scons (CStep.step (PStep.c (p_neq rfl (Sees.of rfl) (Sees.of rfl))) rfl rfl rfl rfl) ?_
    refine scons (CStep.step (PStep.c (p_move (y := .val _) rfl (Sees.of rfl) rfl)) rfl rfl rfl rfl) ?_
    refine scons (CStep.guard rfl rfl rfl (fun hg0 => PStep.c (p_fieldRef rfl wCardM_fld38_1 wCardM_siz36 rfl (Sees.of rfl) rfl)) rfl rfl rfl rfl rfl) ?_
    refine scons (CStep.guard rfl rfl rfl (fun hg0 => PStep.c (p_loadB (y := .val _) rfl wCardM_agg36 (Sees.gv' rfl hg0) rfl rfl rfl rfl)) rfl rfl rfl rfl rfl) ?_
    refine scons (CStep.guard rfl rfl rfl (fun hg0 => PStep.c (p_len rfl wCardM_isl36 (Sees.gv' rfl hg0))) rfl rfl rfl rfl rfl) ?_
    refine scons (CStep.guard rfl rfl rfl (fun hg0 => PStep.c (p_eql rfl (Sees.gv' rfl hg0) (Sees.of rfl))) rfl rfl rfl rfl rfl) ?_
    refine scons (CStep.step (PStep.c (p_or rfl (Sees.of rfl) (Sees.of rfl) (fun h => Sees.gv' rfl (beq_of_eq h)))) rfl rfl rfl rfl) ?_
    refine scons (CStep.step (PStep.c (p_move (y := .val _) rfl (Sees.of rfl) rfl)) rfl rfl rfl rfl) ?_
    refine scons (CStep.guard rfl rfl rfl (fun hg0 => PStep.c (p_loadBS rfl wCardM_agg38 wCardM_siz38 (Sees.of rfl) rfl rfl rfl)) rfl rfl rfl rfl rfl) ?_
    refine scons (CStep.guard rfl rfl rfl (fun hg0 => c_call rfl wCardM_isf22 ⟨_, _, rfl, (Sees.gv' rfl hg0), rfl, rfl⟩ (check_spec _ _)) rfl rfl rfl rfl rfl) ?_
    refine scons (CStep.guard rfl rfl rfl (fun hg0 => PStep.c (p_field rfl wCardM_fld24_0 wCardM_agg3 (Sees.gv' rfl hg0) rfl)) rfl rfl rfl rfl rfl) ?_
    refine scons (CStep.guard rfl rfl rfl (fun hg0 => PStep.c (p_neq rfl (Sees.gv' rfl hg0) (Sees.of rfl))) rfl rfl rfl rfl rfl) ?_
    refine scons (CStep.step (PStep.c (p_or rfl (Sees.of rfl) (Sees.of rfl) (fun h => Sees.gv' rfl (beq_of_eq h)))) rfl rfl rfl rfl) ?_
    refine scons (CStep.step (PStep.c (p_move (y := .val _) rfl (Sees.of rfl) rfl)) rfl rfl rfl rfl) ?_
    refine scons (CStep.guard rfl rfl rfl (fun hg0 => PStep.c (p_move (y := .val _) rfl (Sees.of rfl) rfl)) rfl rfl rfl rfl rfl) ?_
    refine scons (CStep.guard rfl rfl rfl (fun hg0 => PStep.c (p_len rfl wCardM_isl26 (Sees.gv' rfl hg0))) rfl rfl rfl rfl rfl) ?_
    refine scons (CStep.guard rfl rfl rfl (fun hg0 => PStep.c (p_gtr rfl (Sees.gv' rfl hg0) (Sees.of rfl))) rfl rfl rfl rfl rfl) ?_
    refine scons (CStep.step (PStep.c (p_or rfl (Sees.of rfl) (Sees.of rfl) (fun h => Sees.gv' rfl (beq_of_eq h)))) rfl rfl rfl rfl) ?_
    refine snil ?_
    refine f_cond rfl ?_ ?_
    · intro hc2
      try simp only [bs] at hc2
      simp [Sp.most_one, ech] at hc2
      omega
    · intro hc2
      try simp only [bs] at hc2
      refine f_skip ?_
      refine f_seq ?_
      refine f_region ?_
      refine scons (CStep.step (PStep.c (p_assign (y := .emp) rfl (Sees.of rfl) rfl)) rfl rfl rfl rfl) ?_
      refine snil ?_
      refine f_seq ?_
      refine f_seq ?_
      refine f_region ?_
      refine scons (CStep.step (PStep.c (p_assign (y := .val _) rfl (Sees.of rfl) rfl)) rfl rfl rfl rfl) ?_
      refine snil ?_
      refine f_block ?_
      refine f_loop (α := Nat × Nat × List Int) (fun (i, u, S) => i ≤ l.length ∧ S.length ≤ i ∧ (S.length : Int) ≤ k % 9 ∧ Sp.Rot l w i S) (fun (i, u, S) => [(15, iv i), (14, .row 20014 u), (20014, .arr u 3 1 8 di 0 S), (9, iv (k % 9)), (10, .ref 10010 0 0), (10010, .box 0 (.ccons (iv n) (.ccons (.val (intss (Sp.some (Sp.negs l) (k % 9 + 1)))) .cnil))), (1, .val (ints l)), (3, .val (.int .u8 w)), (8, bv false)]) (fun (i, u, S) => l.length - i) (0, 0, []) ?_ ?_ ?_
      · exact ⟨Nat.zero_le _, Nat.le_refl _, by show (0 : Int) ≤ _; omega, by simp, fun y hy => by cases hy⟩
      · exact Le.trans (GLe.le (g_adopt (ob := 20014) (k := 14) 3 1 8 di 0 rfl rfl rfl rfl)) (le_ofL ⟨rfl, rfl, rfl, rfl, rfl, rfl, rfl, rfl, rfl, trivial⟩ rfl)
      · rintro ⟨i, u, S⟩ ⟨hi, hSi, hSk, hrot⟩
        refine f_seq ?_
        refine f_seq ?_
        refine f_region ?_
        refine scons (CStep.step (PStep.c (p_move (y := .val _) rfl (Sees.of rfl) rfl)) rfl rfl rfl rfl) ?_
        refine scons (CStep.step (PStep.c (p_move (y := .val _) rfl (Sees.of rfl) rfl)) rfl rfl rfl rfl) ?_
        refine scons (CStep.step (PStep.c (p_len rfl wCardM_isl26 (Sees.of rfl))) rfl rfl rfl rfl) ?_
        refine scons (CStep.step (PStep.c (p_lss rfl (Sees.of rfl) (Sees.of rfl))) rfl rfl rfl rfl) ?_
        refine snil ?_
        refine f_cond rfl ?_ ?_
        · intro hc3
          try simp only [bs] at hc3
          refine f_skip ?_
          refine f_seq ?_
          refine f_block ?_
          refine f_seq ?_
          refine f_region ?_
          refine scons (CStep.step (PStep.c (p_move (y := .val _) rfl (Sees.of rfl) rfl)) rfl rfl rfl rfl) ?_
          refine scons (CStep.step (PStep.c (p_move (y := .val _) rfl (Sees.of rfl) rfl)) rfl rfl rfl rfl) ?_
          refine scons (CStep.step (PStep.c (p_conv64 rfl wCardM_int5 wCardM_int3 (Sees.of rfl) (by omega))) rfl rfl rfl rfl) ?_
          refine scons (CStep.step (PStep.c (p_add rfl (Sees.of rfl) (Sees.of rfl) (by omega))) rfl rfl rfl rfl) ?_
          refine scons (CStep.step (PStep.c (p_move (y := .val _) rfl (Sees.of rfl) rfl)) rfl rfl rfl rfl) ?_
          refine scons (CStep.step (PStep.c (p_len rfl wCardM_isl26 (Sees.of rfl))) rfl rfl rfl rfl) ?_
          refine scons (CStep.step (PStep.c (p_remN rfl (Sees.of rfl) (Sees.of rfl) (by omega) (by omega))) rfl rfl rfl rfl) ?_
          refine scons (CStep.step (PStep.c (p_assign (y := .val _) rfl (Sees.of rfl) rfl)) rfl rfl rfl rfl) ?_
          refine snil ?_
          refine f_seq ?_
          refine f_region ?_
          refine scons (CStep.step (PStep.c (p_move (y := .row _ _) rfl (Sees.of rfl) rfl)) rfl rfl rfl rfl) ?_
          refine scons (CStep.step (PStep.c (p_lenR rfl wCardM_isl26 (Sees.of rfl) rfl)) rfl rfl rfl rfl) ?_
          refine scons (CStep.step (PStep.c (p_move (y := .val _) rfl (Sees.of rfl) rfl)) rfl rfl rfl rfl) ?_
          refine scons (CStep.step (PStep.c (p_lss rfl (Sees.of rfl) (Sees.of rfl))) rfl rfl rfl rfl) ?_
          refine scons (CStep.step (PStep.c (p_move (y := .val _) rfl (Sees.of rfl) rfl)) rfl rfl rfl rfl) ?_
          refine scons (CStep.guard rfl rfl rfl (fun hg0 => PStep.c (p_move (y := .val _) rfl (Sees.of rfl) rfl)) rfl rfl rfl rfl rfl) ?_
          refine scons (CStep.guard rfl rfl rfl (fun hg0 => by have hp0 := hg0; (try simp only [bs] at hp0); exact PStep.c (p_conv64 rfl wCardM_int5 wCardM_int3 (Sees.gv' rfl hg0) (by omega))) rfl rfl rfl rfl rfl) ?_
          refine scons (CStep.guard rfl rfl rfl (fun hg0 => PStep.c (p_move (y := .val _) rfl (Sees.of rfl) rfl)) rfl rfl rfl rfl rfl) ?_
          refine scons (CStep.guard rfl rfl rfl (fun hg0 => by have hp0 := hg0; (try simp only [bs] at hp0); exact PStep.c (p_remN rfl (Sees.gv' rfl hg0) (Sees.of rfl) (by omega) (by omega))) rfl rfl rfl rfl rfl) ?_
          refine scons (CStep.guard rfl rfl rfl (fun hg0 => by have hp0 := hg0; (try simp only [bs] at hp0); exact PStep.c (p_convU rfl wCardM_int3 wCardM_int43 (Sees.gv' rfl hg0) (by omega))) rfl rfl rfl rfl rfl) ?_
          refine scons (CStep.guard rfl rfl rfl (fun hg0 => by have hp0 := hg0; (try simp only [bs] at hp0); exact PStep.c (p_shr rfl (Sees.gv' rfl hg0) (Sees.gv' rfl hg0) (by omega) (by omega))) rfl rfl rfl rfl rfl) ?_
          refine scons (CStep.guard rfl rfl rfl (fun hg0 => PStep.c (p_and1 rfl (Sees.gv' rfl hg0) (Sees.of rfl))) rfl rfl rfl rfl rfl) ?_
          refine scons (CStep.guard rfl rfl rfl (fun hg0 => PStep.c (p_eql rfl (Sees.gv' rfl hg0) (Sees.of rfl))) rfl rfl rfl rfl rfl) ?_
          refine scons (CStep.guard rfl rfl rfl (fun hg0 => PStep.c (p_move (y := .val _) rfl (Sees.gv' rfl hg0) rfl)) rfl rfl rfl rfl rfl) ?_
          refine scons (CStep.guard2 rfl rfl rfl (fun hg1 hg0 => PStep.c (p_move (y := .val _) rfl (Sees.of rfl) rfl)) rfl rfl rfl rfl rfl) ?_
          refine scons (CStep.guard2 rfl rfl rfl (fun hg1 hg0 => PStep.c (p_len rfl wCardM_isl26 (Sees.gv' rfl (and_true_of hg1 hg0)))) rfl rfl rfl rfl rfl) ?_
          refine scons (CStep.guard2 rfl rfl rfl (fun hg1 hg0 => PStep.c (p_move (y := .val _) rfl (Sees.of rfl) rfl)) rfl rfl rfl rfl rfl) ?_
          refine scons (CStep.guard2 rfl rfl rfl (fun hg1 hg0 => by have hp0 := hg0; have hp1 := hg1; (try simp only [bs] at hp0 hp1); exact PStep.c (p_sub rfl (Sees.gv' rfl (and_true_of hg1 hg0)) (Sees.gv' rfl (and_true_of hg1 hg0)) (by omega))) rfl rfl rfl rfl rfl) ?_
          refine scons (CStep.guard2 rfl rfl rfl (fun hg1 hg0 => PStep.c (p_move (y := .val _) rfl (Sees.of rfl) rfl)) rfl rfl rfl rfl rfl) ?_
          refine scons (CStep.guard2 rfl rfl rfl (fun hg1 hg0 => PStep.c (p_move (y := .row _ _) rfl (Sees.of rfl) rfl)) rfl rfl rfl rfl rfl) ?_
          refine scons (CStep.guard2 rfl rfl rfl (fun hg1 hg0 => PStep.c (p_lenR rfl wCardM_isl26 (Sees.gv' rfl (and_true_of hg1 hg0)) rfl)) rfl rfl rfl rfl rfl) ?_
          refine scons (CStep.guard2 rfl rfl rfl (fun hg1 hg0 => by have hp0 := hg0; have hp1 := hg1; (try simp only [bs] at hp0 hp1); exact PStep.c (p_sub rfl (Sees.gv' rfl (and_true_of hg1 hg0)) (Sees.gv' rfl (and_true_of hg1 hg0)) (by omega))) rfl rfl rfl rfl rfl) ?_
          refine scons (CStep.guard2 rfl rfl rfl (fun hg1 hg0 => PStep.c (p_leq rfl (Sees.gv' rfl (and_true_of hg1 hg0)) (Sees.gv' rfl (and_true_of hg1 hg0)))) rfl rfl rfl rfl rfl) ?_
          refine scons (CStep.guard rfl rfl rfl (fun hg0 => PStep.c (p_or rfl (Sees.gv' rfl hg0) (Sees.of rfl) (fun h => Sees.gv' rfl (and_true_of hg0 (beq_of_eq h))))) rfl rfl rfl rfl rfl) ?_
          refine scons (CStep.step (PStep.c (p_and rfl (Sees.of rfl) (fun h => Sees.gv' rfl (beq_of_eq h)) (Sees.of rfl))) rfl rfl rfl rfl) ?_
          refine snil ?_
          refine f_cond rfl ?_ ?_
          · intro hc4
            try simp only [bs] at hc4
            have hm1 := Int.emod_nonneg ((i : Int) + w) (b := (l.length : Int)) (by omega)
            have hm2 := Int.emod_lt_of_pos ((i : Int) + w) (b := (l.length : Int)) (by omega)
            refine f_region ?_
            refine scons (CStep.step (PStep.c (p_move (y := .row _ _) rfl (Sees.of rfl) rfl)) rfl rfl rfl rfl) ?_
            refine scons (CStep.step (PStep.c (p_move (y := .val _) rfl (Sees.of rfl) rfl)) rfl rfl rfl rfl) ?_
            refine scons (CStep.step (PStep.c (p_move (y := .val _) rfl (Sees.of rfl) rfl)) rfl rfl rfl rfl) ?_
            refine scons (CStep.step (PStep.c ((by first | exact p_indexN rfl wCardM_isl26 wCardM_siz3 (Sees.of rfl) (Sees.of rfl) (by omega) | exact p_index rfl wCardM_isl26 wCardM_siz3 (Sees.of rfl) (Sees.of rfl) (by omega) (by omega)))) rfl rfl rfl rfl) ?_
            refine scons (CStep.step (PStep.c (p_load rfl wCardM_agg3 (Sees.of rfl) rfl)) rfl rfl rfl rfl) ?_
            refine scons (CStep.step (c_buildSlice (f := di) (za := 0) (xs := [.tmp 108]) rfl rfl wCardM_isl26 wCardM_siz3 wCardM_zer3 rfl rfl ⟨_, _, rfl, (Sees.of rfl), rfl, rfl, rfl⟩) rfl rfl rfl rfl) ?_
            refine scons (r_appendR (ob := 20014) rfl wCardM_isl26 wCardM_siz3 wCardM_byt3 wCardM_zer3 rfl rfl (Sees.of rfl) rfl (Sees.of rfl) (by simp only [List.length_cons, List.length_nil, List.length_append]; omega) (by simp only [List.length_cons, List.length_nil, List.length_append]; omega) rfl rfl rfl rfl rfl) ?_
            refine scons (CStep.step (PStep.c (p_assign (y := .row _ _) rfl (Sees.of rfl) rfl)) rfl rfl rfl rfl) ?_
            refine snil ?_
            refine f_nil ?_
            show AWs _ _ _ _ _
            refine f_region ?_
            refine scons (CStep.step (PStep.c (p_move (y := .val _) rfl (Sees.of rfl) rfl)) rfl rfl rfl rfl) ?_
            refine scons (CStep.step (PStep.c (p_add rfl (Sees.of rfl) (Sees.of rfl) (by omega))) rfl rfl rfl rfl) ?_
            refine scons (CStep.step (PStep.c (p_assign (y := .val _) rfl (Sees.of rfl) rfl)) rfl rfl rfl rfl) ?_
            refine snil ?_
            refine f_back ⟨(i + 1, u + 1, S ++ [l.getD (((i : Int) + w) % (l.length : Int)).toNat 0]), ?_, ?_, le_ofL ⟨rfl, rfl, rfl, rfl, rfl, rfl, rfl, rfl, rfl, trivial⟩ rfl⟩
            · refine ⟨by omega, ?_, ?_, Sp.rot_step hnd (by omega) hrot⟩
              · simp only [List.length_append, List.length_cons, List.length_nil]; omega
              · simp only [List.length_append, List.length_cons, List.length_nil]; omega
            · show l.length - (i + 1) < l.length - i
              omega
          · intro hc4
            try simp only [bs] at hc4
            refine f_skip ?_
            refine f_nil ?_
            show AWs _ _ _ _ _
            refine f_region ?_
            refine scons (CStep.step (PStep.c (p_move (y := .val _) rfl (Sees.of rfl) rfl)) rfl rfl rfl rfl) ?_
            refine scons (CStep.step (PStep.c (p_add rfl (Sees.of rfl) (Sees.of rfl) (by omega))) rfl rfl rfl rfl) ?_
            refine scons (CStep.step (PStep.c (p_assign (y := .val _) rfl (Sees.of rfl) rfl)) rfl rfl rfl rfl) ?_
            refine snil ?_
            refine f_back ⟨(i + 1, u, S), ?_, ?_, le_ofL ⟨rfl, rfl, rfl, rfl, rfl, rfl, rfl, rfl, rfl, trivial⟩ rfl⟩
            · exact ⟨by omega, by omega, hSk, Sp.rot_weak hrot⟩
            · show l.length - (i + 1) < l.length - i
              omega
        · intro hc3
          try simp only [bs] at hc3
          refine f_exit ?_
          show AWs _ _ _ _ _
          refine f_seq ?_
          refine f_seq ?_
          refine f_region ?_
          refine scons (CStep.step (PStep.c (p_move (y := .row _ _) rfl (Sees.of rfl) rfl)) rfl rfl rfl rfl) ?_
          refine scons (CStep.step (PStep.c (p_lenR rfl wCardM_isl26 (Sees.of rfl) rfl)) rfl rfl rfl rfl) ?_
          refine scons (CStep.step (PStep.c (p_move (y := .val _) rfl (Sees.of rfl) rfl)) rfl rfl rfl rfl) ?_
          refine scons (CStep.step (PStep.c (p_lss rfl (Sees.of rfl) (Sees.of rfl))) rfl rfl rfl rfl) ?_
          refine snil ?_
          refine f_cond rfl ?_ ?_
          · intro hc5
            try simp only [bs] at hc5
            refine f_seq ?_
            refine f_region ?_
            refine scons (CStep.step (PStep.c (p_assign (y := .val _) rfl (Sees.of rfl) rfl)) rfl rfl rfl rfl) ?_
            refine snil ?_
            refine f_ret ?_
            refine ends_ret (res_eq (res1 rfl (res_tmp rfl (Sees.of rfl))) ?_)
            rfl
          · intro hc5
            try simp only [bs] at hc5
            refine f_skip ?_
            refine f_seq ?_
            refine f_le (GLe.le (g_freeze (k := 14) (o1 := 20014) rfl rfl rfl rfl)) ?_ (by simp)
            refine f_region ?_
            refine scons (CStep.step (PStep.c (p_fieldRef rfl wCardM_fld38_1 wCardM_siz36 rfl (Sees.of rfl) rfl)) rfl rfl rfl rfl) ?_
            refine scons (CStep.step (PStep.c (p_loadB (y := .val _) rfl wCardM_agg36 (Sees.of rfl) rfl rfl rfl rfl)) rfl rfl rfl rfl) ?_
            refine scons (CStep.step (PStep.c (p_move (y := .val _) rfl (Sees.of rfl) rfl)) rfl rfl rfl rfl) ?_
            refine scons (CStep.step (c_call rfl wCardM_isf26 ⟨_, _, rfl, (Sees.of rfl), rfl, ⟨_, _, rfl, (Sees.of rfl), rfl, rfl⟩⟩ (AskedR_spec (Sp.some (Sp.negs l) (k % 9 + 1)) S huse.1 (by have := List.length_filter_le (fun x => !decide (x ∈ S)) (Sp.some (Sp.negs l) (k % 9 + 1)).flatten; unfold Sp.room; omega))) rfl rfl rfl rfl) ?_
            refine scons (r_alloc (ob := 10017) rfl wCardM_zer50 rfl rfl rfl rfl rfl rfl) ?_
            refine scons (r_storeS rfl wCardM_siz50 rfl rfl rfl (Sees.of rfl) rfl (Sees.of rfl) rfl rfl rfl rfl) ?_
            refine snil ?_
            refine f_seq ?_
            refine f_seq ?_
            refine f_region ?_
            refine scons (CStep.step (PStep.c (p_assign (y := .val _) rfl (Sees.of rfl) rfl)) rfl rfl rfl rfl) ?_
            refine snil ?_
            refine f_block ?_
            refine f_loop (α := Nat) (fun j => j ≤ l.length) (fun j => [(18, iv j), (14, .val (ints S)), (17, .ref 10017 0 0), (10017, .box 0 (.ccons (.val (ints (Sp.on (Sp.some (Sp.negs l) (k % 9 + 1)) S (List.replicate S.length (-1))).1)) (.ccons (.val (ints (Sp.on (Sp.some (Sp.negs l) (k % 9 + 1)) S (List.replicate S.length (-1))).2.1)) (.ccons (iv (Sp.on (Sp.some (Sp.negs l) (k % 9 + 1)) S (List.replicate S.length (-1))).2.2) .cnil)))), (1, .val (ints l))]) (fun j => l.length - j) 0 ?_ ?_ ?_
            · exact Nat.zero_le _
            · exact le_ofL ⟨rfl, rfl, rfl, rfl, rfl, trivial⟩ rfl
            · rintro j hj
              refine f_seq ?_
              refine f_seq ?_
              refine f_region ?_
              refine scons (CStep.step (PStep.c (p_move (y := .val _) rfl (Sees.of rfl) rfl)) rfl rfl rfl rfl) ?_
              refine scons (CStep.step (PStep.c (p_move (y := .val _) rfl (Sees.of rfl) rfl)) rfl rfl rfl rfl) ?_
              refine scons (CStep.step (PStep.c (p_len rfl wCardM_isl26 (Sees.of rfl))) rfl rfl rfl rfl) ?_
              refine scons (CStep.step (PStep.c (p_lss rfl (Sees.of rfl) (Sees.of rfl))) rfl rfl rfl rfl) ?_
              refine scons (CStep.step (PStep.c (p_move (y := .val _) rfl (Sees.of rfl) rfl)) rfl rfl rfl rfl) ?_
              refine scons (CStep.guard rfl rfl rfl (fun hg0 => PStep.c (p_fieldRef rfl wCardM_fld50_2 wCardM_siz3 rfl (Sees.of rfl) rfl)) rfl rfl rfl rfl rfl) ?_
              refine scons (CStep.guard rfl rfl rfl (fun hg0 => PStep.c (p_loadB (y := .val _) rfl wCardM_agg3 (Sees.gv' rfl hg0) rfl rfl rfl rfl)) rfl rfl rfl rfl rfl) ?_
              refine scons (CStep.guard rfl rfl rfl (fun hg0 => PStep.c (p_lss rfl (Sees.gv' rfl hg0) (Sees.of rfl))) rfl rfl rfl rfl rfl) ?_
              refine scons (CStep.step (PStep.c (p_and rfl (Sees.of rfl) (fun h => Sees.gv' rfl (beq_of_eq h)) (Sees.of rfl))) rfl rfl rfl rfl) ?_
              refine snil ?_
              refine f_cond rfl ?_ ?_
              · intro hc6
                try simp only [bs] at hc6
                refine f_skip ?_
                refine f_seq ?_
                refine f_block ?_
                refine f_seq ?_
                have hx := hco.2.2.2.2 _ (Sp.getD_mem l j 0 (by omega))
                refine f_draw wCardM_mix (by kernel_rfl) ?_
                refine dcons (CStep.step (PStep.c (p_move (y := .val _) rfl (Sees.of rfl) rfl)) rfl rfl rfl rfl) ?_
                refine dcons (CStep.step (PStep.c (p_move (y := .val _) rfl (Sees.of rfl) rfl)) rfl rfl rfl rfl) ?_
                refine dcons (CStep.step (PStep.c (p_move (y := .val _) rfl (Sees.of rfl) rfl)) rfl rfl rfl rfl) ?_
                refine dcons (CStep.step (PStep.c ((by first | exact p_indexN rfl wCardM_isl26 wCardM_siz3 (Sees.of rfl) (Sees.of rfl) (by omega) | exact p_index rfl wCardM_isl26 wCardM_siz3 (Sees.of rfl) (Sees.of rfl) (by omega) (by omega)))) rfl rfl rfl rfl) ?_
                refine dcons (CStep.step (PStep.c (p_load rfl wCardM_agg3 (Sees.of rfl) rfl)) rfl rfl rfl rfl) ?_
                refine dcons (CStep.step (c_call rfl wCardM_isf27 ⟨_, _, rfl, (Sees.of rfl), rfl, ⟨_, _, rfl, (Sees.of rfl), rfl, rfl⟩⟩ (has_spec _ _)) rfl rfl rfl rfl) ?_
                refine dcons (CStep.step (PStep.c (p_not rfl (Sees.of rfl))) rfl rfl rfl rfl) ?_
                refine dcons (CStep.step (PStep.c (p_move (y := .val _) rfl (Sees.of rfl) rfl)) rfl rfl rfl rfl) ?_
                refine dcons (CStep.guard rfl rfl rfl (fun hg0 => PStep.c (p_fieldRef rfl wCardM_fld50_0 wCardM_siz26 rfl (Sees.of rfl) rfl)) rfl rfl rfl rfl rfl) ?_
                refine dcons (CStep.guard rfl rfl rfl (fun hg0 => PStep.c (p_loadB (y := .val _) rfl wCardM_agg26 (Sees.gv' rfl hg0) rfl rfl rfl rfl)) rfl rfl rfl rfl rfl) ?_
                refine dcons (CStep.guard rfl rfl rfl (fun hg0 => PStep.c (p_move (y := .val _) rfl (Sees.of rfl) rfl)) rfl rfl rfl rfl rfl) ?_
                refine dcons (CStep.guard rfl rfl rfl (fun hg0 => PStep.c (p_move (y := .val _) rfl (Sees.of rfl) rfl)) rfl rfl rfl rfl rfl) ?_
                refine dcons (CStep.guard rfl rfl rfl (fun hg0 => by have hp0 := hg0; (try simp only [bs] at hp0); exact PStep.c ((by first | exact p_indexN rfl wCardM_isl26 wCardM_siz3 (Sees.gv' rfl hg0) (Sees.gv' rfl hg0) (by omega) | exact p_index rfl wCardM_isl26 wCardM_siz3 (Sees.gv' rfl hg0) (Sees.gv' rfl hg0) (by omega) (by omega)))) rfl rfl rfl rfl rfl) ?_
                refine dcons (CStep.guard rfl rfl rfl (fun hg0 => PStep.c (p_load rfl wCardM_agg3 (Sees.gv' rfl hg0) rfl)) rfl rfl rfl rfl rfl) ?_
                refine dcons (CStep.guard rfl rfl rfl (fun hg0 => by have hp0 := hg0; (try simp only [bs] at hp0); exact PStep.c (p_neg rfl (Sees.gv' rfl hg0) (by omega))) rfl rfl rfl rfl rfl) ?_
                refine dcons (CStep.guard rfl rfl rfl (fun hg0 => c_call rfl wCardM_isf27 ⟨_, _, rfl, (Sees.gv' rfl hg0), rfl, ⟨_, _, rfl, (Sees.gv' rfl hg0), rfl, rfl⟩⟩ (has_spec _ _)) rfl rfl rfl rfl rfl) ?_
                refine dcons (CStep.guard rfl rfl rfl (fun hg0 => PStep.c (p_not rfl (Sees.gv' rfl hg0))) rfl rfl rfl rfl rfl) ?_
                refine dcons (CStep.step (PStep.c (p_and rfl (Sees.of rfl) (fun h => Sees.gv' rfl (beq_of_eq h)) (Sees.of rfl))) rfl rfl rfl rfl) ?_
                refine dnil (by kernel_rfl) ?_
                refine f_cond rfl ?_ ?_
                · intro hc7
                  try simp only [bs] at hc7
                  exact absurd (Sp.must_most hwl hrot.1 (Sp.rot_sub hi hrot) (by omega) hc6.2 _ (Sp.getD_mem l j 0 (by omega)) hc7.1) hc7.2
                · intro hc7
                  try simp only [bs] at hc7
                  refine f_skip ?_
                  refine f_nil ?_
                  show AWs _ _ _ _ _
                  refine f_region ?_
                  refine scons (CStep.step (PStep.c (p_move (y := .val _) rfl (Sees.of rfl) rfl)) rfl rfl rfl rfl) ?_
                  refine scons (CStep.step (PStep.c (p_add rfl (Sees.of rfl) (Sees.of rfl) (by omega))) rfl rfl rfl rfl) ?_
                  refine scons (CStep.step (PStep.c (p_assign (y := .val _) rfl (Sees.of rfl) rfl)) rfl rfl rfl rfl) ?_
                  refine snil ?_
                  refine f_back ⟨j + 1, ?_, ?_, le_ofL ⟨rfl, rfl, rfl, rfl, rfl, trivial⟩ rfl⟩
                  · omega
                  · omega
              · intro hc6
                try simp only [bs] at hc6
                refine f_exit ?_
                show AWs _ _ _ _ _
                refine f_seq ?_
                refine f_region ?_
                refine scons (CStep.step (PStep.c (p_assign (y := .val _) rfl (Sees.of rfl) rfl)) rfl rfl rfl rfl) ?_
                refine snil ?_
                refine f_ret ?_
                refine ends_ret (res_eq (res1 rfl (res_tmp rfl (Sees.of rfl))) ?_)
                rfl

end Go.Um
