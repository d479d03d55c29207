/- Walks of Go functions of this seat, each by its contract. No condition beyond what each theorem says. -/
import Derived.Test.YtpjenbbalengoaaLay
import Derived.Test.YtpjenbbalengoaaSort
import Derived.Test.YtpjenbbalengoaaWCnf
import Derived.Test.YtpjenbbalengoaaWPar
import Derived.Test.YtpjenbbalengoaaSpH
import Derived.Test.YtpjenbbalengoaaSv2
import Derived.Test.YtpjenbbalengoaaProg
import Derived.KernelRfl
set_option maxRecDepth 4000
namespace Go.Um
open Go Go.RowKit

theorem wPar2_agg3 : IsAgg Go.Proofs.Try.prog 3 false := by unfold IsAgg; kernel_rfl
theorem wPar2_agg33 : IsAgg Go.Proofs.Try.prog 33 false := by unfold IsAgg; kernel_rfl
theorem wPar2_agg35 : IsAgg Go.Proofs.Try.prog 35 true := by unfold IsAgg; kernel_rfl
theorem wPar2_agg4 : IsAgg Go.Proofs.Try.prog 4 false := by unfold IsAgg; kernel_rfl
theorem wPar2_boo4 : IsBool Go.Proofs.Try.prog 4 := by unfold IsBool; kernel_rfl
theorem wPar2_byt3 : Bytes Go.Proofs.Try.prog 3 8 := by unfold Bytes; kernel_rfl
theorem wPar2_fld35_0 : IsField Go.Proofs.Try.prog 35 0 0 33 := by unfold IsField; kernel_rfl
theorem wPar2_fld35_1 : IsField Go.Proofs.Try.prog 35 1 1 4 := by unfold IsField; kernel_rfl
theorem wPar2_isf51 : IsFn Go.Proofs.Try.prog 51 := by unfold IsFn; kernel_rfl
theorem wPar2_isf96 : IsFn Go.Proofs.Try.prog 96 := by unfold IsFn; kernel_rfl
theorem wPar2_isf97 : IsFn Go.Proofs.Try.prog 97 := by unfold IsFn; kernel_rfl
theorem wPar2_isl33 : IsSlice Go.Proofs.Try.prog 33 3 := by unfold IsSlice; kernel_rfl
theorem wPar2_mix : (Go.Proofs.Try.prog).follows .mixedOrders = true := by kernel_rfl
theorem wPar2_plc35 : Places Go.Proofs.Try.prog 35 [(0, 1), (1, 1)] := by unfold Places; kernel_rfl
theorem wPar2_siz3 : Size Go.Proofs.Try.prog 3 1 := by unfold Size; kernel_rfl
theorem wPar2_siz33 : Size Go.Proofs.Try.prog 33 1 := by unfold Size; kernel_rfl
theorem wPar2_siz35 : Size Go.Proofs.Try.prog 35 2 := by unfold Size; kernel_rfl
theorem wPar2_siz4 : Size Go.Proofs.Try.prog 4 1 := by unfold Size; kernel_rfl
theorem wPar2_zer3 : Zero Go.Proofs.Try.prog 3 (.int .i64 0) := by unfold Zero; kernel_rfl
theorem wPar2_zer35 : Zero Go.Proofs.Try.prog 35 (.agg #[(.slice none 0 0), (.bool false)]) := by unfold Zero; kernel_rfl

theorem idxI_spec (l : List Int) (x : Int) :
    Spec Go.Proofs.Try.prog 96 [.val (ints l), iv x] (di (Sp.idx (fun y => decide (x = y)) l)) := by
  refine spec_of' Go.Proofs.Try.func96 rfl Go.Proofs.Try.ntmps96 rfl ?_
  refine f_seq ?_
  refine f_wf (.tmp 0) rfl (fun hwf => ?_) (by simp)
  have hlen : l.length ≤ 140737488355328 := hwf.1
  clear hwf
  refine f_region ?_
  refine scons (CStep.step (PStep.c (p_assign (y := .val _) rfl (Sees.of rfl) rfl)) rfl rfl rfl rfl) ?_
  refine snil ?_
  refine f_seq ?_
  refine f_seq ?_
  refine f_region ?_
  refine scons (CStep.step (PStep.c (p_move (y := .val _) rfl (Sees.of rfl) rfl)) rfl rfl rfl rfl) ?_
  refine scons (CStep.step (PStep.c (p_len rfl wPar2_isl33 (Sees.of rfl))) rfl rfl rfl rfl) ?_
  refine scons (CStep.step (PStep.c (p_move (y := .val _) rfl (Sees.of rfl) rfl)) rfl rfl rfl rfl) ?_
  refine snil ?_
  refine f_block ?_
  refine f_loop (α := Nat) (fun i => i ≤ l.length ∧ ∀ y ∈ l.take i, decide (x = y) = false) (fun i => [(8, iv i), (0, .val (ints l)), (1, iv x), (7, iv l.length)]) (fun i => l.length - i) 0 ?_ ?_ ?_
  · exact ⟨Nat.zero_le _, by simp⟩
  · exact le_ofL ⟨rfl, rfl, rfl, rfl, trivial⟩ rfl
  · rintro i ⟨hi, hp⟩
    refine f_seq ?_
    refine f_region ?_
    refine scons (CStep.step (PStep.c (p_lss rfl (Sees.of rfl) (Sees.of rfl))) rfl rfl rfl rfl) ?_
    refine snil ?_
    refine f_seq ?_
    refine f_cond rfl ?_ ?_
    · intro hc1
      try simp only [bs] at hc1
      refine f_skip ?_
      refine f_seq ?_
      refine f_block ?_
      refine f_seq ?_
      refine f_region ?_
      refine scons (CStep.step (PStep.c (p_move (y := .val _) rfl (Sees.of rfl) rfl)) rfl rfl rfl rfl) ?_
      refine scons (CStep.step (PStep.c (p_assign (y := .val _) rfl (Sees.of rfl) rfl)) rfl rfl rfl rfl) ?_
      refine snil ?_
      refine f_seq ?_
      refine f_region ?_
      refine scons (CStep.step (PStep.c (p_move (y := .val _) rfl (Sees.of rfl) rfl)) rfl rfl rfl rfl) ?_
      refine scons (CStep.step (PStep.c (p_move (y := .val _) rfl (Sees.of rfl) rfl)) rfl rfl rfl rfl) ?_
      refine scons (CStep.step (PStep.c (p_move (y := .val _) rfl (Sees.of rfl) rfl)) rfl rfl rfl rfl) ?_
      refine scons (CStep.step (PStep.c ((by first | exact p_indexN rfl wPar2_isl33 wPar2_siz3 (Sees.of rfl) (Sees.of rfl) (by omega) | exact p_index rfl wPar2_isl33 wPar2_siz3 (Sees.of rfl) (Sees.of rfl) (by omega) (by omega)))) rfl rfl rfl rfl) ?_
      refine scons (CStep.step (PStep.c (p_load rfl wPar2_agg3 (Sees.of rfl) rfl)) rfl rfl rfl rfl) ?_
      refine scons (CStep.step (PStep.c (p_eql rfl (Sees.of rfl) (Sees.of rfl))) rfl rfl rfl rfl) ?_
      refine snil ?_
      refine f_cond rfl ?_ ?_
      · intro hc2
        try simp only [bs] at hc2
        refine f_seq ?_
        refine f_region ?_
        refine scons (CStep.step (PStep.c (p_move (y := .val _) rfl (Sees.of rfl) rfl)) rfl rfl rfl rfl) ?_
        refine scons (CStep.step (PStep.c (p_assign (y := .val _) rfl (Sees.of rfl) rfl)) rfl rfl rfl rfl) ?_
        refine snil ?_
        refine f_ret ?_
        refine ends_ret (res_eq (res1 rfl (res_tmp rfl (Sees.of rfl))) ?_)
        rw [Sp.idx_at (z := 0) (by omega) hp (by simpa using hc2)]
      · intro hc2
        try simp only [bs] at hc2
        refine f_skip ?_
        refine f_nil ?_
        show AWs _ _ _ _ _
        refine f_region ?_
        refine scons (CStep.step (PStep.c (p_add rfl (Sees.of rfl) (Sees.of rfl) (by omega))) rfl rfl rfl rfl) ?_
        refine scons (CStep.step (PStep.c (p_move (y := .val _) rfl (Sees.of rfl) rfl)) rfl rfl rfl rfl) ?_
        refine snil ?_
        refine f_back ⟨i + 1, ?_, ?_, le_ofL ⟨rfl, rfl, rfl, rfl, trivial⟩ rfl⟩
        · exact ⟨by omega, Sp.step_all (by omega) hp (by simpa using hc2)⟩
        · omega
    · intro hc1
      try simp only [bs] at hc1
      refine f_exit ?_
      show AWs _ _ _ _ _
      refine f_seq ?_
      refine f_region ?_
      refine scons (CStep.step (PStep.c (p_assign (y := .val _) rfl (Sees.of rfl) rfl)) rfl rfl rfl rfl) ?_
      refine snil ?_
      refine f_ret ?_
      refine ends_ret (res_eq (res1 rfl (res_tmp rfl (Sees.of rfl))) ?_)
      rw [List.take_of_length_le (by omega)] at hp
      rw [Sp.idx_none hp]

theorem hasI_spec (l : List Int) (x : Int) :
    Spec Go.Proofs.Try.prog 51 [.val (ints l), iv x] (D.bool (decide (x ∈ l))) := by
  refine spec_of' Go.Proofs.Try.func51 rfl Go.Proofs.Try.ntmps51 rfl ?_
  refine f_seq ?_
  refine f_region ?_
  refine scons (CStep.step (PStep.c (p_assign (y := .val _) rfl (Sees.of rfl) rfl)) rfl rfl rfl rfl) ?_
  refine snil ?_
  refine f_seq ?_
  refine f_region ?_
  refine scons (CStep.step (PStep.c (p_move (y := .val _) rfl (Sees.of rfl) rfl)) rfl rfl rfl rfl) ?_
  refine scons (CStep.step (PStep.c (p_move (y := .val _) rfl (Sees.of rfl) rfl)) rfl rfl rfl rfl) ?_
  refine scons (CStep.step (c_call rfl wPar2_isf96 ⟨_, _, rfl, (Sees.of rfl), rfl, ⟨_, _, rfl, (Sees.of rfl), rfl, rfl⟩⟩ (idxI_spec l x)) rfl rfl rfl rfl) ?_
  refine scons (CStep.step (PStep.c (p_geq rfl (Sees.of rfl) (Sees.of rfl))) rfl rfl rfl rfl) ?_
  refine scons (CStep.step (PStep.c (p_assign (y := .val _) rfl (Sees.of rfl) rfl)) rfl rfl rfl rfl) ?_
  refine snil ?_
  refine f_ret ?_
  refine ends_ret (res_eq (res1 rfl (res_tmp rfl (Sees.of rfl))) ?_)
  rw [Sp.idx_any]
  congr 1
  by_cases h : x ∈ l
  · rw [decide_eq_true h, List.any_eq_true]; exact ⟨x, h, by simp⟩
  · rw [decide_eq_false h, List.any_eq_false]; intro y hy; simp; rintro rfl; exact h hy

theorem parsum_spec (a b : List Int × Bool) (ha : a.1.length ≤ 1000) (hb : b.1.length ≤ 1000) :
    Spec Go.Proofs.Try.prog 52 [.val (dPar a), .val (dPar b)] (dPar (Sp.psum a b)) := by
  refine spec_of' Go.Proofs.Try.func52 rfl Go.Proofs.Try.ntmps52 rfl ?_
  refine f_seq ?_
  refine f_region ?_
  refine scons (r_box (ob := 10002) rfl (Sees.of rfl) rfl rfl rfl rfl rfl rfl) ?_
  refine scons (r_box (ob := 10003) rfl (Sees.of rfl) rfl rfl rfl rfl rfl rfl) ?_
  refine scons (r_alloc (ob := 10004) rfl wPar2_zer35 rfl rfl rfl rfl rfl rfl) ?_
  refine snil ?_
  refine f_seq ?_
  refine f_region ?_
  refine scons (CStep.step (PStep.c (p_fieldRef rfl wPar2_fld35_1 wPar2_siz4 rfl (Sees.of rfl) rfl)) rfl rfl rfl rfl) ?_
  refine scons (CStep.step (PStep.c (p_loadB (y := .val _) rfl wPar2_agg4 (Sees.of rfl) rfl rfl rfl rfl)) rfl rfl rfl rfl) ?_
  refine scons (CStep.step (PStep.c (p_fieldRef rfl wPar2_fld35_1 wPar2_siz4 rfl (Sees.of rfl) rfl)) rfl rfl rfl rfl) ?_
  refine scons (CStep.step (PStep.c (p_loadB (y := .val _) rfl wPar2_agg4 (Sees.of rfl) rfl rfl rfl rfl)) rfl rfl rfl rfl) ?_
  refine scons (CStep.step (PStep.c (p_neqB rfl wPar2_boo4 (Sees.of rfl) (Sees.of rfl))) rfl rfl rfl rfl) ?_
  refine scons (CStep.step (PStep.c (p_buildV rfl wPar2_plc35 wPar2_zer35 rfl rfl ⟨_, _, _, _, _, rfl, rfl, rfl, (Sees.of rfl), (oneAt_val rfl), ⟨rfl, rfl⟩⟩ rfl)) rfl rfl rfl rfl) ?_
  refine scons (r_alloc (ob := 10005) rfl wPar2_zer35 rfl rfl rfl rfl rfl rfl) ?_
  refine scons (r_storeV rfl wPar2_siz35 rfl rfl rfl (Sees.of rfl) rfl (Sees.of rfl) rfl rfl rfl rfl) ?_
  refine snil ?_
  refine f_seq ?_
  refine f_seq ?_
  refine f_region ?_
  refine scons (CStep.step (PStep.c (p_fieldRef rfl wPar2_fld35_0 wPar2_siz33 rfl (Sees.of rfl) rfl)) rfl rfl rfl rfl) ?_
  refine scons (CStep.step (PStep.c (p_loadB (y := .val _) rfl wPar2_agg33 (Sees.of rfl) rfl rfl rfl rfl)) rfl rfl rfl rfl) ?_
  refine scons (CStep.step (PStep.c (p_len rfl wPar2_isl33 (Sees.of rfl))) rfl rfl rfl rfl) ?_
  refine scons (CStep.step (PStep.c (p_move (y := .val _) rfl (Sees.of rfl) rfl)) rfl rfl rfl rfl) ?_
  refine snil ?_
  refine f_block ?_
  refine f_loop (α := Nat × Nat) (fun (i, u) => i ≤ a.1.length) (fun (i, u) => [(19, iv i), (17, .val (ints a.1)), (18, iv a.1.length), (2, .ref 10002 0 0), (10002, .box 0 (.ccons (.val (ints a.1)) (.ccons (bv a.2) .cnil))), (3, .ref 10003 0 0), (10003, .box 0 (.ccons (.val (ints b.1)) (.ccons (bv b.2) .cnil))), (4, .ref 10004 0 0), (10004, .box 0 (.ccons .emp (.ccons (bv false) .cnil))), (5, .ref 10005 0 0), (10005, .box 0 (.ccons (.row 30000 u) (.ccons (bv (a.2 != b.2)) .cnil))), (30000, .arr u 3 1 8 di 0 (Sp.side a.1 b.1 i))]) (fun (i, u) => a.1.length - i) (0, 0) ?_ ?_ ?_
  · exact Nat.zero_le _
  · exact Le.trans (GLe.le (g_adoptB (ob := 10005) (off := 0) (o1 := 30000) 3 1 8 di 0 rfl rfl rfl rfl rfl rfl rfl)) (le_ofL ⟨rfl, rfl, rfl, rfl, rfl, rfl, rfl, rfl, rfl, rfl, rfl, rfl, trivial⟩ rfl)
  · rintro ⟨i, u⟩ hi
    have hi : i ≤ a.1.length := hi
    have hsl := Sp.side_len a.1 b.1 i
    refine f_seq ?_
    refine f_region ?_
    refine scons (CStep.step (PStep.c (p_lss rfl (Sees.of rfl) (Sees.of rfl))) rfl rfl rfl rfl) ?_
    refine snil ?_
    refine f_seq ?_
    refine f_cond rfl ?_ ?_
    · intro hc1
      try simp only [bs] at hc1
      refine f_skip ?_
      refine f_seq ?_
      refine f_block ?_
      refine f_seq ?_
      refine f_region ?_
      refine scons (CStep.step (PStep.c ((by first | exact p_indexN rfl wPar2_isl33 wPar2_siz3 (Sees.of rfl) (Sees.of rfl) (by omega) | exact p_index rfl wPar2_isl33 wPar2_siz3 (Sees.of rfl) (Sees.of rfl) (by omega) (by omega)))) rfl rfl rfl rfl) ?_
      refine scons (CStep.step (PStep.c (p_load rfl wPar2_agg3 (Sees.of rfl) rfl)) rfl rfl rfl rfl) ?_
      refine scons (CStep.step (PStep.c (p_assign (y := .val _) rfl (Sees.of rfl) rfl)) rfl rfl rfl rfl) ?_
      refine snil ?_
      refine f_seq ?_
      refine f_region ?_
      refine scons (CStep.step (PStep.c (p_fieldRef rfl wPar2_fld35_0 wPar2_siz33 rfl (Sees.of rfl) rfl)) rfl rfl rfl rfl) ?_
      refine scons (CStep.step (PStep.c (p_loadB (y := .val _) rfl wPar2_agg33 (Sees.of rfl) rfl rfl rfl rfl)) rfl rfl rfl rfl) ?_
      refine scons (CStep.step (PStep.c (p_move (y := .val _) rfl (Sees.of rfl) rfl)) rfl rfl rfl rfl) ?_
      refine scons (CStep.step (c_call rfl wPar2_isf51 ⟨_, _, rfl, (Sees.of rfl), rfl, ⟨_, _, rfl, (Sees.of rfl), rfl, rfl⟩⟩ (hasI_spec _ _)) rfl rfl rfl rfl) ?_
      refine scons (CStep.step (PStep.c (p_not rfl (Sees.of rfl))) rfl rfl rfl rfl) ?_
      refine snil ?_
      refine f_cond rfl ?_ ?_
      · intro hc2
        try simp only [bs] at hc2
        refine f_region ?_
        refine scons (CStep.step (PStep.c (p_fieldRef rfl wPar2_fld35_0 wPar2_siz33 rfl (Sees.of rfl) rfl)) rfl rfl rfl rfl) ?_
        refine scons (CStep.step (PStep.c (p_loadB (y := .row _ _) rfl wPar2_agg33 (Sees.of rfl) rfl rfl rfl rfl)) rfl rfl rfl rfl) ?_
        refine scons (CStep.step (PStep.c (p_move (y := .val _) rfl (Sees.of rfl) rfl)) rfl rfl rfl rfl) ?_
        refine scons (CStep.step (c_buildSlice (f := di) (za := 0) (xs := [.tmp 30]) rfl rfl wPar2_isl33 wPar2_siz3 wPar2_zer3 rfl rfl ⟨_, _, rfl, (Sees.of rfl), rfl, rfl, rfl⟩) rfl rfl rfl rfl) ?_
        refine scons (r_appendR (ob := 30000) rfl wPar2_isl33 wPar2_siz3 wPar2_byt3 wPar2_zer3 rfl rfl (Sees.of rfl) rfl (Sees.of rfl) (by simp only [List.length_append, List.length_cons, List.length_nil]; omega) (by simp only [List.length_append, List.length_cons, List.length_nil]; omega) rfl rfl rfl rfl rfl) ?_
        refine scons (CStep.step (PStep.c (p_fieldRef rfl wPar2_fld35_0 wPar2_siz33 rfl (Sees.of rfl) rfl)) rfl rfl rfl rfl) ?_
        refine scons (r_storeR rfl wPar2_siz33 rfl rfl rfl (Sees.of rfl) rfl rfl (Sees.of rfl) rfl) ?_
        refine snil ?_
        refine f_nil ?_
        show AWs _ _ _ _ _
        refine f_region ?_
        refine scons (CStep.step (PStep.c (p_add rfl (Sees.of rfl) (Sees.of rfl) (by omega))) rfl rfl rfl rfl) ?_
        refine scons (CStep.step (PStep.c (p_move (y := .val _) rfl (Sees.of rfl) rfl)) rfl rfl rfl rfl) ?_
        refine snil ?_
        refine f_back ⟨(i + 1, u + 1), ?_, ?_, le_ofL ⟨rfl, rfl, rfl, rfl, rfl, rfl, rfl, rfl, rfl, rfl, rfl, (by rw [Sp.side_yes (by omega) (decide_eq_false hc2)]; rfl), trivial⟩ rfl⟩
        · show i + 1 ≤ a.1.length
          omega
        · show a.1.length - (i + 1) < a.1.length - i
          omega
      · intro hc2
        try simp only [bs] at hc2
        refine f_skip ?_
        refine f_nil ?_
        show AWs _ _ _ _ _
        refine f_region ?_
        refine scons (CStep.step (PStep.c (p_add rfl (Sees.of rfl) (Sees.of rfl) (by omega))) rfl rfl rfl rfl) ?_
        refine scons (CStep.step (PStep.c (p_move (y := .val _) rfl (Sees.of rfl) rfl)) rfl rfl rfl rfl) ?_
        refine snil ?_
        refine f_back ⟨(i + 1, u), ?_, ?_, le_ofL ⟨rfl, rfl, rfl, rfl, rfl, rfl, rfl, rfl, rfl, rfl, rfl, (by rw [Sp.side_no (by omega) (decide_eq_true hc2)]; rfl), trivial⟩ rfl⟩
        · show i + 1 ≤ a.1.length
          omega
        · show a.1.length - (i + 1) < a.1.length - i
          omega
    · intro hc1
      try simp only [bs] at hc1
      refine f_exit ?_
      show AWs _ _ _ _ _
      refine f_seq ?_
      refine f_seq ?_
      obtain rfl : i = a.1.length := by omega
      refine f_region ?_
      refine scons (CStep.step (PStep.c (p_fieldRef rfl wPar2_fld35_0 wPar2_siz33 rfl (Sees.of rfl) rfl)) rfl rfl rfl rfl) ?_
      refine scons (CStep.step (PStep.c (p_loadB (y := .val _) rfl wPar2_agg33 (Sees.of rfl) rfl rfl rfl rfl)) rfl rfl rfl rfl) ?_
      refine scons (CStep.step (PStep.c (p_len rfl wPar2_isl33 (Sees.of rfl))) rfl rfl rfl rfl) ?_
      refine scons (CStep.step (PStep.c (p_move (y := .val _) rfl (Sees.of rfl) rfl)) rfl rfl rfl rfl) ?_
      refine snil ?_
      refine f_block ?_
      refine f_loop (α := Nat × Nat) (fun (j, v) => j ≤ b.1.length) (fun (j, v) => [(38, iv j), (36, .val (ints b.1)), (37, iv b.1.length), (2, .ref 10002 0 0), (10002, .box 0 (.ccons (.val (ints a.1)) (.ccons (bv a.2) .cnil))), (3, .ref 10003 0 0), (10003, .box 0 (.ccons (.val (ints b.1)) (.ccons (bv b.2) .cnil))), (4, .ref 10004 0 0), (10004, .box 0 (.ccons .emp (.ccons (bv false) .cnil))), (5, .ref 10005 0 0), (10005, .box 0 (.ccons (.row 30000 v) (.ccons (bv (a.2 != b.2)) .cnil))), (30000, .arr v 3 1 8 di 0 ((Sp.side a.1 b.1 a.1.length) ++ (Sp.side b.1 a.1 j)))]) (fun (j, v) => b.1.length - j) (0, u) ?_ ?_ ?_
      · exact Nat.zero_le _
      · exact le_ofL ⟨rfl, rfl, rfl, rfl, rfl, rfl, rfl, rfl, rfl, rfl, rfl, (by show _ = AV.arr _ _ _ _ _ _ ((Sp.side a.1 b.1 a.1.length) ++ []); rw [List.append_nil]; rfl), trivial⟩ rfl
      · rintro ⟨j, v⟩ hj
        have hj : j ≤ b.1.length := hj
        have hsl := Sp.side_len a.1 b.1 a.1.length
        have hsl2 := Sp.side_len b.1 a.1 j
        refine f_seq ?_
        refine f_region ?_
        refine scons (CStep.step (PStep.c (p_lss rfl (Sees.of rfl) (Sees.of rfl))) rfl rfl rfl rfl) ?_
        refine snil ?_
        refine f_seq ?_
        refine f_cond rfl ?_ ?_
        · intro hc3
          try simp only [bs] at hc3
          refine f_skip ?_
          refine f_seq ?_
          refine f_block ?_
          refine f_seq ?_
          refine f_region ?_
          refine scons (CStep.step (PStep.c ((by first | exact p_indexN rfl wPar2_isl33 wPar2_siz3 (Sees.of rfl) (Sees.of rfl) (by omega) | exact p_index rfl wPar2_isl33 wPar2_siz3 (Sees.of rfl) (Sees.of rfl) (by omega) (by omega)))) rfl rfl rfl rfl) ?_
          refine scons (CStep.step (PStep.c (p_load rfl wPar2_agg3 (Sees.of rfl) rfl)) rfl rfl rfl rfl) ?_
          refine scons (CStep.step (PStep.c (p_assign (y := .val _) rfl (Sees.of rfl) rfl)) rfl rfl rfl rfl) ?_
          refine snil ?_
          refine f_seq ?_
          refine f_region ?_
          refine scons (CStep.step (PStep.c (p_fieldRef rfl wPar2_fld35_0 wPar2_siz33 rfl (Sees.of rfl) rfl)) rfl rfl rfl rfl) ?_
          refine scons (CStep.step (PStep.c (p_loadB (y := .val _) rfl wPar2_agg33 (Sees.of rfl) rfl rfl rfl rfl)) rfl rfl rfl rfl) ?_
          refine scons (CStep.step (PStep.c (p_move (y := .val _) rfl (Sees.of rfl) rfl)) rfl rfl rfl rfl) ?_
          refine scons (CStep.step (c_call rfl wPar2_isf51 ⟨_, _, rfl, (Sees.of rfl), rfl, ⟨_, _, rfl, (Sees.of rfl), rfl, rfl⟩⟩ (hasI_spec _ _)) rfl rfl rfl rfl) ?_
          refine scons (CStep.step (PStep.c (p_not rfl (Sees.of rfl))) rfl rfl rfl rfl) ?_
          refine snil ?_
          refine f_cond rfl ?_ ?_
          · intro hc4
            try simp only [bs] at hc4
            refine f_region ?_
            refine scons (CStep.step (PStep.c (p_fieldRef rfl wPar2_fld35_0 wPar2_siz33 rfl (Sees.of rfl) rfl)) rfl rfl rfl rfl) ?_
            refine scons (CStep.step (PStep.c (p_loadB (y := .row _ _) rfl wPar2_agg33 (Sees.of rfl) rfl rfl rfl rfl)) rfl rfl rfl rfl) ?_
            refine scons (CStep.step (PStep.c (p_move (y := .val _) rfl (Sees.of rfl) rfl)) rfl rfl rfl rfl) ?_
            refine scons (CStep.step (c_buildSlice (f := di) (za := 0) (xs := [.tmp 49]) rfl rfl wPar2_isl33 wPar2_siz3 wPar2_zer3 rfl rfl ⟨_, _, rfl, (Sees.of rfl), rfl, rfl, rfl⟩) rfl rfl rfl rfl) ?_
            refine scons (r_appendR (ob := 30000) rfl wPar2_isl33 wPar2_siz3 wPar2_byt3 wPar2_zer3 rfl rfl (Sees.of rfl) rfl (Sees.of rfl) (by simp only [List.length_append, List.length_cons, List.length_nil]; omega) (by simp only [List.length_append, List.length_cons, List.length_nil]; omega) rfl rfl rfl rfl rfl) ?_
            refine scons (CStep.step (PStep.c (p_fieldRef rfl wPar2_fld35_0 wPar2_siz33 rfl (Sees.of rfl) rfl)) rfl rfl rfl rfl) ?_
            refine scons (r_storeR rfl wPar2_siz33 rfl rfl rfl (Sees.of rfl) rfl rfl (Sees.of rfl) rfl) ?_
            refine snil ?_
            refine f_nil ?_
            show AWs _ _ _ _ _
            refine f_region ?_
            refine scons (CStep.step (PStep.c (p_add rfl (Sees.of rfl) (Sees.of rfl) (by omega))) rfl rfl rfl rfl) ?_
            refine scons (CStep.step (PStep.c (p_move (y := .val _) rfl (Sees.of rfl) rfl)) rfl rfl rfl rfl) ?_
            refine snil ?_
            refine f_back ⟨(j + 1, v + 1), ?_, ?_, le_ofL ⟨rfl, rfl, rfl, rfl, rfl, rfl, rfl, rfl, rfl, rfl, rfl, (by rw [Sp.side_yes (by omega) (decide_eq_false hc4), ← List.append_assoc]; rfl), trivial⟩ rfl⟩
            · show j + 1 ≤ b.1.length
              omega
            · show b.1.length - (j + 1) < b.1.length - j
              omega
          · intro hc4
            try simp only [bs] at hc4
            refine f_skip ?_
            refine f_nil ?_
            show AWs _ _ _ _ _
            refine f_region ?_
            refine scons (CStep.step (PStep.c (p_add rfl (Sees.of rfl) (Sees.of rfl) (by omega))) rfl rfl rfl rfl) ?_
            refine scons (CStep.step (PStep.c (p_move (y := .val _) rfl (Sees.of rfl) rfl)) rfl rfl rfl rfl) ?_
            refine snil ?_
            refine f_back ⟨(j + 1, v), ?_, ?_, le_ofL ⟨rfl, rfl, rfl, rfl, rfl, rfl, rfl, rfl, rfl, rfl, rfl, (by rw [Sp.side_no (by omega) (decide_eq_true hc4)]; rfl), trivial⟩ rfl⟩
            · show j + 1 ≤ b.1.length
              omega
            · show b.1.length - (j + 1) < b.1.length - j
              omega
        · intro hc3
          try simp only [bs] at hc3
          refine f_exit ?_
          show AWs _ _ _ _ _
          refine f_seq ?_
          obtain rfl : j = b.1.length := by omega
          refine f_region ?_
          refine scons (CStep.step (PStep.c (p_fieldRef rfl wPar2_fld35_0 wPar2_siz33 rfl (Sees.of rfl) rfl)) rfl rfl rfl rfl) ?_
          refine scons (CStep.step (PStep.c (p_loadB (y := .row _ _) rfl wPar2_agg33 (Sees.of rfl) rfl rfl rfl rfl)) rfl rfl rfl rfl) ?_
          refine scons (r_callB rfl wPar2_isf97 (sortI_spec Go.Proofs.Try.laySort v 3 8 ((Sp.side a.1 b.1 a.1.length) ++ (Sp.side b.1 a.1 b.1.length))) ⟨_, _, rfl, (Sees.of rfl), rfl⟩ ⟨rfl, trivial⟩ rfl rfl rfl rfl rfl rfl) ?_
          refine snil ?_
          refine f_seq ?_
          refine f_le (GLe.le (g_freezeB (ob := 10005) (off := 0) (o1 := 30000) rfl rfl rfl rfl rfl rfl rfl)) ?_ (by simp)
          refine f_region ?_
          refine scons (CStep.step (PStep.c (p_loadBS rfl wPar2_agg35 wPar2_siz35 (Sees.of rfl) rfl rfl rfl)) rfl rfl rfl rfl) ?_
          refine scons (r_storeS rfl wPar2_siz35 rfl rfl rfl (Sees.of rfl) rfl (Sees.of rfl) rfl rfl rfl rfl) ?_
          refine snil ?_
          refine f_ret ?_
          refine ends_ret (res_eq (res1 rfl (res_cell (by rfl) rfl rfl wPar2_agg35 wPar2_siz35 rfl rfl)) ?_)
          rfl

theorem same_spec (a b : List Int) :
    Spec Go.Proofs.Try.prog 72 [.val (ints a), .val (ints b)] (D.bool (decide (a = b))) := by
  refine spec_of' Go.Proofs.Try.func72 rfl Go.Proofs.Try.ntmps72 rfl ?_
  refine f_seq ?_
  refine f_wf (.tmp 0) rfl (fun hwf => ?_) (by simp)
  have hlen : a.length ≤ 140737488355328 := hwf.1
  clear hwf
  refine f_region ?_
  refine scons (CStep.step (PStep.c (p_assign (y := .val _) rfl (Sees.of rfl) rfl)) rfl rfl rfl rfl) ?_
  refine snil ?_
  refine f_seq ?_
  refine f_seq ?_
  refine f_region ?_
  refine scons (CStep.step (PStep.c (p_move (y := .val _) rfl (Sees.of rfl) rfl)) rfl rfl rfl rfl) ?_
  refine scons (CStep.step (PStep.c (p_len rfl wPar2_isl33 (Sees.of rfl))) rfl rfl rfl rfl) ?_
  refine scons (CStep.step (PStep.c (p_move (y := .val _) rfl (Sees.of rfl) rfl)) rfl rfl rfl rfl) ?_
  refine scons (CStep.step (PStep.c (p_len rfl wPar2_isl33 (Sees.of rfl))) rfl rfl rfl rfl) ?_
  refine scons (CStep.step (PStep.c (p_neq rfl (Sees.of rfl) (Sees.of rfl))) rfl rfl rfl rfl) ?_
  refine snil ?_
  refine f_cond rfl ?_ ?_
  · intro hc1
    try simp only [bs] at hc1
    refine f_seq ?_
    refine f_region ?_
    refine scons (CStep.step (PStep.c (p_assign (y := .val _) rfl (Sees.of rfl) rfl)) rfl rfl rfl rfl) ?_
    refine snil ?_
    refine f_ret ?_
    refine ends_ret (res_eq (res1 rfl (res_tmp rfl (Sees.of rfl))) ?_)
    rw [decide_eq_false (fun h => hc1 (by rw [h]))]
  · intro hc1
    try simp only [bs] at hc1
    refine f_skip ?_
    refine f_seq ?_
    refine f_seq ?_
    refine f_region ?_
    refine scons (CStep.step (PStep.c (p_assign (y := .val _) rfl (Sees.of rfl) rfl)) rfl rfl rfl rfl) ?_
    refine snil ?_
    refine f_block ?_
    refine f_loop (α := Nat) (fun i => i ≤ a.length ∧ ∀ j, j < i → a.getD j 0 = b.getD j 0) (fun i => [(5, iv i), (0, .val (ints a)), (1, .val (ints b))]) (fun i => a.length - i) 0 ?_ ?_ ?_
    · exact ⟨Nat.zero_le _, fun j hj => absurd hj (Nat.not_lt_zero _)⟩
    · exact le_ofL ⟨rfl, rfl, rfl, trivial⟩ rfl
    · rintro i ⟨hi, hp⟩
      refine f_seq ?_
      refine f_seq ?_
      refine f_region ?_
      refine scons (CStep.step (PStep.c (p_move (y := .val _) rfl (Sees.of rfl) rfl)) rfl rfl rfl rfl) ?_
      refine scons (CStep.step (PStep.c (p_move (y := .val _) rfl (Sees.of rfl) rfl)) rfl rfl rfl rfl) ?_
      refine scons (CStep.step (PStep.c (p_len rfl wPar2_isl33 (Sees.of rfl))) rfl rfl rfl rfl) ?_
      refine scons (CStep.step (PStep.c (p_lss rfl (Sees.of rfl) (Sees.of rfl))) rfl rfl rfl rfl) ?_
      refine snil ?_
      refine f_cond rfl ?_ ?_
      · intro hc2
        try simp only [bs] at hc2
        refine f_skip ?_
        refine f_seq ?_
        refine f_block ?_
        refine f_seq ?_
        refine f_draw wPar2_mix (by kernel_rfl) ?_
        refine dcons (CStep.step (PStep.c (p_move (y := .val _) rfl (Sees.of rfl) rfl)) rfl rfl rfl rfl) ?_
        refine dcons (CStep.step (PStep.c (p_move (y := .val _) rfl (Sees.of rfl) rfl)) rfl rfl rfl rfl) ?_
        refine dcons (CStep.step (PStep.c ((by first | exact p_indexN rfl wPar2_isl33 wPar2_siz3 (Sees.of rfl) (Sees.of rfl) (by omega) | exact p_index rfl wPar2_isl33 wPar2_siz3 (Sees.of rfl) (Sees.of rfl) (by omega) (by omega)))) rfl rfl rfl rfl) ?_
        refine dcons (CStep.step (PStep.c (p_load rfl wPar2_agg3 (Sees.of rfl) rfl)) rfl rfl rfl rfl) ?_
        refine dcons (CStep.step (PStep.c (p_move (y := .val _) rfl (Sees.of rfl) rfl)) rfl rfl rfl rfl) ?_
        refine dcons (CStep.step (PStep.c (p_move (y := .val _) rfl (Sees.of rfl) rfl)) rfl rfl rfl rfl) ?_
        refine dcons (CStep.step (PStep.c ((by first | exact p_indexN rfl wPar2_isl33 wPar2_siz3 (Sees.of rfl) (Sees.of rfl) (by omega) | exact p_index rfl wPar2_isl33 wPar2_siz3 (Sees.of rfl) (Sees.of rfl) (by omega) (by omega)))) rfl rfl rfl rfl) ?_
        refine dcons (CStep.step (PStep.c (p_load rfl wPar2_agg3 (Sees.of rfl) rfl)) rfl rfl rfl rfl) ?_
        refine dcons (CStep.step (PStep.c (p_neq rfl (Sees.of rfl) (Sees.of rfl))) rfl rfl rfl rfl) ?_
        refine dnil (by kernel_rfl) ?_
        refine f_cond rfl ?_ ?_
        · intro hc3
          try simp only [bs] at hc3
          refine f_seq ?_
          refine f_region ?_
          refine scons (CStep.step (PStep.c (p_assign (y := .val _) rfl (Sees.of rfl) rfl)) rfl rfl rfl rfl) ?_
          refine snil ?_
          refine f_ret ?_
          refine ends_ret (res_eq (res1 rfl (res_tmp rfl (Sees.of rfl))) ?_)
          rw [decide_eq_false (fun h => by rw [h] at hc3; simp at hc3)]
        · intro hc3
          try simp only [bs] at hc3
          refine f_skip ?_
          refine f_nil ?_
          show AWs _ _ _ _ _
          refine f_region ?_
          refine scons (CStep.step (PStep.c (p_move (y := .val _) rfl (Sees.of rfl) rfl)) rfl rfl rfl rfl) ?_
          refine scons (CStep.step (PStep.c (p_add rfl (Sees.of rfl) (Sees.of rfl) (by omega))) rfl rfl rfl rfl) ?_
          refine scons (CStep.step (PStep.c (p_assign (y := .val _) rfl (Sees.of rfl) rfl)) rfl rfl rfl rfl) ?_
          refine snil ?_
          refine f_back ⟨i + 1, ?_, ?_, le_ofL ⟨rfl, rfl, rfl, trivial⟩ rfl⟩
          · refine ⟨by omega, fun j hj => ?_⟩
            by_cases e : j = i
            · rw [e]; exact hc3
            · exact hp j (by omega)
          · omega
      · intro hc2
        try simp only [bs] at hc2
        refine f_exit ?_
        show AWs _ _ _ _ _
        refine f_seq ?_
        refine f_region ?_
        refine scons (CStep.step (PStep.c (p_assign (y := .val _) rfl (Sees.of rfl) rfl)) rfl rfl rfl rfl) ?_
        refine snil ?_
        refine f_ret ?_
        refine ends_ret (res_eq (res1 rfl (res_tmp rfl (Sees.of rfl))) ?_)
        rw [decide_eq_true (Sp.ints_eq (by omega) (fun j hj => hp j (by omega)))]

end Go.Um
