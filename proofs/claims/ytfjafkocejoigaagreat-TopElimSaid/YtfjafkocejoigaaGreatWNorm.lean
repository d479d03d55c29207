/- Walks of Go functions of this seat, each by its contract. No condition beyond what each theorem says. -/
import Derived.Test.YtfjafkocejoigaaGreatWOrd
import Derived.Test.YtfjafkocejoigaaGreatBD
import Derived.Test.YtfjafkocejoigaaGreatBC
import Derived.Test.YtfjafkocejoigaaGreatPA
import Derived.Test.YtfjafkocejoigaaGreatProg
import Derived.KernelRfl
set_option maxRecDepth 4000
namespace Go.Um
open Go Go.RowKit

theorem wNorm_agg22 : IsAgg Go.Proofs.Tryz.prog 22 false := by unfold IsAgg; kernel_rfl
theorem wNorm_agg3 : IsAgg Go.Proofs.Tryz.prog 3 false := by unfold IsAgg; kernel_rfl
theorem wNorm_byt22 : Bytes Go.Proofs.Tryz.prog 22 24 := by unfold Bytes; kernel_rfl
theorem wNorm_isf113 : IsFn Go.Proofs.Tryz.prog 113 := by unfold IsFn; kernel_rfl
theorem wNorm_isf114 : IsFn Go.Proofs.Tryz.prog 114 := by unfold IsFn; kernel_rfl
theorem wNorm_isf115 : IsFn Go.Proofs.Tryz.prog 115 := by unfold IsFn; kernel_rfl
theorem wNorm_isf51 : IsFn Go.Proofs.Tryz.prog 51 := by unfold IsFn; kernel_rfl
theorem wNorm_isf54 : IsFn Go.Proofs.Tryz.prog 54 := by unfold IsFn; kernel_rfl
theorem wNorm_isf92 : IsFn Go.Proofs.Tryz.prog 92 := by unfold IsFn; kernel_rfl
theorem wNorm_isl22 : IsSlice Go.Proofs.Tryz.prog 22 3 := by unfold IsSlice; kernel_rfl
theorem wNorm_isl23 : IsSlice Go.Proofs.Tryz.prog 23 22 := by unfold IsSlice; kernel_rfl
theorem wNorm_mix : (Go.Proofs.Tryz.prog).follows .mixedOrders = true := by kernel_rfl
theorem wNorm_siz22 : Size Go.Proofs.Tryz.prog 22 1 := by unfold Size; kernel_rfl
theorem wNorm_siz3 : Size Go.Proofs.Tryz.prog 3 1 := by unfold Size; kernel_rfl
theorem wNorm_zer22 : Zero Go.Proofs.Tryz.prog 22 (.slice none 0 0) := by unfold Zero; kernel_rfl

theorem cmpFn_spec (a b : List Int) (cf : Int → Int → Int) (V : Int → Prop) (hVa : ∀ x ∈ a, V x) (hVb : ∀ x ∈ b, V x) :
    Spec Go.Proofs.Tryz.prog 113 [.val (ints a), .val (ints b), .val (.fn (α := { p : Int × Int // V p.1 ∧ V p.2 }) (fun p => .cons (di p.1.1) (.cons (di p.1.2) .nil)) (fun p => di (cf p.1.1 p.1.2)))] (di (Sp.cmpL cf a b)) := by
  refine spec_of' Go.Proofs.Tryz.func113 rfl Go.Proofs.Tryz.ntmps113 rfl ?_
  refine f_seq ?_
  refine f_wf (.tmp 0) rfl (fun hwf => ?_) (by simp)
  have hlen : a.length ≤ 140737488355328 := hwf.1
  clear hwf
  refine f_wf (.tmp 1) rfl (fun hwf => ?_) (by simp)
  have hlenb : b.length ≤ 140737488355328 := hwf.1
  clear hwf
  refine f_region ?_
  refine scons (CStep.step (PStep.c (p_assign (y := .val _) rfl (Sees.of rfl) rfl)) rfl rfl rfl rfl) ?_
  refine snil ?_
  refine f_seq ?_
  refine f_seq ?_
  refine f_region ?_
  refine scons (CStep.step (PStep.c (p_move (y := .val _) rfl (Sees.of rfl) rfl)) rfl rfl rfl rfl) ?_
  refine scons (CStep.step (PStep.c (p_len rfl wNorm_isl22 (Sees.of rfl))) rfl rfl rfl rfl) ?_
  refine scons (CStep.step (PStep.c (p_move (y := .val _) rfl (Sees.of rfl) rfl)) rfl rfl rfl rfl) ?_
  refine snil ?_
  refine f_block ?_
  refine f_loop (α := Nat) (fun i => i ≤ a.length ∧ i ≤ b.length ∧ ∀ j, j < i → cf (a.getD j 0) (b.getD j 0) = 0) (fun i => [(13, iv i), (0, .val (ints a)), (1, .val (ints b)), (2, .val (.fn (α := { p : Int × Int // V p.1 ∧ V p.2 }) (fun p => .cons (di p.1.1) (.cons (di p.1.2) .nil)) (fun p => di (cf p.1.1 p.1.2)))), (11, .val (ints a)), (12, iv a.length)]) (fun i => a.length - i) 0 ?_ ?_ ?_
  · exact ⟨Nat.zero_le _, Nat.zero_le _, fun j hj => absurd hj (Nat.not_lt_zero _)⟩
  · exact le_ofL ⟨rfl, rfl, rfl, rfl, rfl, rfl, trivial⟩ rfl
  · rintro i ⟨hi, hb, hp⟩
    refine f_seq ?_
    refine f_region ?_
    refine scons (CStep.step (PStep.c (p_lss rfl (Sees.of rfl) (Sees.of rfl))) rfl rfl rfl rfl) ?_
    refine snil ?_
    refine f_seq ?_
    refine f_cond rfl ?_ ?_
    · intro hc1
      try simp only [bs] at hc1
      refine f_skip ?_
      refine f_seq ?_
      refine f_block ?_
      refine f_seq ?_
      refine f_region ?_
      refine scons (CStep.step (PStep.c (p_move (y := .val _) rfl (Sees.of rfl) rfl)) rfl rfl rfl rfl) ?_
      refine scons (CStep.step (PStep.c ((by first | exact p_indexN rfl wNorm_isl22 wNorm_siz3 (Sees.of rfl) (Sees.of rfl) (by omega) | exact p_index rfl wNorm_isl22 wNorm_siz3 (Sees.of rfl) (Sees.of rfl) (by omega) (by omega)))) rfl rfl rfl rfl) ?_
      refine scons (CStep.step (PStep.c (p_load rfl wNorm_agg3 (Sees.of rfl) rfl)) rfl rfl rfl rfl) ?_
      refine scons (CStep.step (PStep.c (p_assign (y := .val _) rfl (Sees.of rfl) rfl)) rfl rfl rfl rfl) ?_
      refine scons (CStep.step (PStep.c (p_assign (y := .val _) rfl (Sees.of rfl) rfl)) rfl rfl rfl rfl) ?_
      refine snil ?_
      refine f_seq ?_
      refine f_seq ?_
      refine f_region ?_
      refine scons (CStep.step (PStep.c (p_move (y := .val _) rfl (Sees.of rfl) rfl)) rfl rfl rfl rfl) ?_
      refine scons (CStep.step (PStep.c (p_move (y := .val _) rfl (Sees.of rfl) rfl)) rfl rfl rfl rfl) ?_
      refine scons (CStep.step (PStep.c (p_len rfl wNorm_isl22 (Sees.of rfl))) rfl rfl rfl rfl) ?_
      refine scons (CStep.step (PStep.c (p_geq rfl (Sees.of rfl) (Sees.of rfl))) rfl rfl rfl rfl) ?_
      refine snil ?_
      refine f_cond rfl ?_ ?_
      · intro hc2
        try simp only [bs] at hc2
        refine f_seq ?_
        refine f_region ?_
        refine scons (CStep.step (PStep.c (p_assign (y := .val _) rfl (Sees.of rfl) rfl)) rfl rfl rfl rfl) ?_
        refine snil ?_
        refine f_ret ?_
        refine ends_ret (res_eq (res1 rfl (res_tmp rfl (Sees.of rfl))) ?_)
        rw [Sp.cmpL_more (by omega) (by omega) hp]
      · intro hc2
        try simp only [bs] at hc2
        refine f_skip ?_
        refine f_seq ?_
        refine f_region ?_
        refine scons (CStep.step (PStep.c (p_move (y := .val _) rfl (Sees.of rfl) rfl)) rfl rfl rfl rfl) ?_
        refine scons (CStep.step (PStep.c (p_move (y := .val _) rfl (Sees.of rfl) rfl)) rfl rfl rfl rfl) ?_
        refine scons (CStep.step (PStep.c ((by first | exact p_indexN rfl wNorm_isl22 wNorm_siz3 (Sees.of rfl) (Sees.of rfl) (by omega) | exact p_index rfl wNorm_isl22 wNorm_siz3 (Sees.of rfl) (Sees.of rfl) (by omega) (by omega)))) rfl rfl rfl rfl) ?_
        refine scons (CStep.step (PStep.c (p_load rfl wNorm_agg3 (Sees.of rfl) rfl)) rfl rfl rfl rfl) ?_
        refine scons (CStep.step (PStep.c (p_assign (y := .val _) rfl (Sees.of rfl) rfl)) rfl rfl rfl rfl) ?_
        refine snil ?_
        refine f_seq ?_
        refine f_region ?_
        refine scons (CStep.step (PStep.c (p_move (y := .val _) rfl (Sees.of rfl) rfl)) rfl rfl rfl rfl) ?_
        refine scons (CStep.step (PStep.c (p_move (y := .val _) rfl (Sees.of rfl) rfl)) rfl rfl rfl rfl) ?_
        refine scons (CStep.step (PStep.c (p_move (y := .val _) rfl (Sees.of rfl) rfl)) rfl rfl rfl rfl) ?_
        refine scons (CStep.step (c_callV (q := false) (⟨(a.getD i 0, b.getD i 0), hVa _ (Sp.getD_mem a i 0 (by omega)), hVb _ (Sp.getD_mem b i 0 (by omega))⟩) rfl (Sees.of rfl) rfl (sa_cons (sh_of (Sees.of rfl) rfl) (sa_cons (sh_of (Sees.of rfl) rfl) (sa_nil))) rfl) rfl rfl rfl rfl) ?_
        refine scons (CStep.step (PStep.c (p_assign (y := .val _) rfl (Sees.of rfl) rfl)) rfl rfl rfl rfl) ?_
        refine snil ?_
        refine f_seq ?_
        refine f_region ?_
        refine scons (CStep.step (PStep.c (p_move (y := .val _) rfl (Sees.of rfl) rfl)) rfl rfl rfl rfl) ?_
        refine scons (CStep.step (PStep.c (p_neq rfl (Sees.of rfl) (Sees.of rfl))) rfl rfl rfl rfl) ?_
        refine snil ?_
        refine f_cond rfl ?_ ?_
        · intro hc3
          try simp only [bs] at hc3
          refine f_seq ?_
          refine f_region ?_
          refine scons (CStep.step (PStep.c (p_move (y := .val _) rfl (Sees.of rfl) rfl)) rfl rfl rfl rfl) ?_
          refine scons (CStep.step (PStep.c (p_assign (y := .val _) rfl (Sees.of rfl) rfl)) rfl rfl rfl rfl) ?_
          refine snil ?_
          refine f_ret ?_
          refine ends_ret (res_eq (res1 rfl (res_tmp rfl (Sees.of rfl))) ?_)
          rw [Sp.cmpL_next (by omega) (by omega) hp hc3]
        · intro hc3
          try simp only [bs] at hc3
          refine f_skip ?_
          refine f_nil ?_
          show AWs _ _ _ _ _
          refine f_region ?_
          refine scons (CStep.step (PStep.c (p_add rfl (Sees.of rfl) (Sees.of rfl) (by omega))) rfl rfl rfl rfl) ?_
          refine scons (CStep.step (PStep.c (p_move (y := .val _) rfl (Sees.of rfl) rfl)) rfl rfl rfl rfl) ?_
          refine snil ?_
          refine f_back ⟨i + 1, ?_, ?_, le_ofL ⟨rfl, rfl, rfl, rfl, rfl, rfl, trivial⟩ rfl⟩
          · refine ⟨by omega, by omega, fun j hj => ?_⟩
            by_cases e : j = i
            · rw [e]; exact hc3
            · exact hp j (by omega)
          · omega
    · intro hc1
      try simp only [bs] at hc1
      refine f_exit ?_
      show AWs _ _ _ _ _
      refine f_seq ?_
      refine f_seq ?_
      refine f_region ?_
      refine scons (CStep.step (PStep.c (p_move (y := .val _) rfl (Sees.of rfl) rfl)) rfl rfl rfl rfl) ?_
      refine scons (CStep.step (PStep.c (p_len rfl wNorm_isl22 (Sees.of rfl))) rfl rfl rfl rfl) ?_
      refine scons (CStep.step (PStep.c (p_move (y := .val _) rfl (Sees.of rfl) rfl)) rfl rfl rfl rfl) ?_
      refine scons (CStep.step (PStep.c (p_len rfl wNorm_isl22 (Sees.of rfl))) rfl rfl rfl rfl) ?_
      refine scons (CStep.step (PStep.c (p_lss rfl (Sees.of rfl) (Sees.of rfl))) rfl rfl rfl rfl) ?_
      refine snil ?_
      refine f_cond rfl ?_ ?_
      · intro hc4
        try simp only [bs] at hc4
        refine f_seq ?_
        refine f_region ?_
        refine scons (CStep.step (PStep.c (p_assign (y := .val _) rfl (Sees.of rfl) rfl)) rfl rfl rfl rfl) ?_
        refine snil ?_
        refine f_ret ?_
        refine ends_ret (res_eq (res1 rfl (res_tmp rfl (Sees.of rfl))) ?_)
        obtain rfl : i = a.length := by omega
        rw [Sp.cmpL_end hb hp, if_pos (by omega)]
      · intro hc4
        try simp only [bs] at hc4
        refine f_skip ?_
        refine f_seq ?_
        refine f_region ?_
        refine scons (CStep.step (PStep.c (p_assign (y := .val _) rfl (Sees.of rfl) rfl)) rfl rfl rfl rfl) ?_
        refine snil ?_
        refine f_ret ?_
        refine ends_ret (res_eq (res1 rfl (res_tmp rfl (Sees.of rfl))) ?_)
        obtain rfl : i = a.length := by omega
        rw [Sp.cmpL_end hb hp, if_neg (by omega)]

theorem equal_spec (a b : List Int) :
    Spec Go.Proofs.Tryz.prog 54 [.val (ints a), .val (ints b)] (D.bool (decide (a = b))) := by
  refine spec_of' Go.Proofs.Tryz.func54 rfl Go.Proofs.Tryz.ntmps54 rfl ?_
  refine f_seq ?_
  refine f_wf (.tmp 0) rfl (fun hwf => ?_) (by simp)
  have hlen : a.length ≤ 140737488355328 := hwf.1
  clear hwf
  refine f_region ?_
  refine scons (CStep.step (PStep.c (p_assign (y := .val _) rfl (Sees.of rfl) rfl)) rfl rfl rfl rfl) ?_
  refine snil ?_
  refine f_seq ?_
  refine f_seq ?_
  refine f_region ?_
  refine scons (CStep.step (PStep.c (p_move (y := .val _) rfl (Sees.of rfl) rfl)) rfl rfl rfl rfl) ?_
  refine scons (CStep.step (PStep.c (p_len rfl wNorm_isl22 (Sees.of rfl))) rfl rfl rfl rfl) ?_
  refine scons (CStep.step (PStep.c (p_move (y := .val _) rfl (Sees.of rfl) rfl)) rfl rfl rfl rfl) ?_
  refine scons (CStep.step (PStep.c (p_len rfl wNorm_isl22 (Sees.of rfl))) rfl rfl rfl rfl) ?_
  refine scons (CStep.step (PStep.c (p_neq rfl (Sees.of rfl) (Sees.of rfl))) rfl rfl rfl rfl) ?_
  refine snil ?_
  refine f_cond rfl ?_ ?_
  · intro hc1
    try simp only [bs] at hc1
    refine f_seq ?_
    refine f_region ?_
    refine scons (CStep.step (PStep.c (p_assign (y := .val _) rfl (Sees.of rfl) rfl)) rfl rfl rfl rfl) ?_
    refine snil ?_
    refine f_ret ?_
    refine ends_ret (res_eq (res1 rfl (res_tmp rfl (Sees.of rfl))) ?_)
    rw [decide_eq_false (fun h => hc1 (by rw [h]))]
  · intro hc1
    try simp only [bs] at hc1
    refine f_skip ?_
    refine f_seq ?_
    refine f_seq ?_
    refine f_region ?_
    refine scons (CStep.step (PStep.c (p_move (y := .val _) rfl (Sees.of rfl) rfl)) rfl rfl rfl rfl) ?_
    refine scons (CStep.step (PStep.c (p_len rfl wNorm_isl22 (Sees.of rfl))) rfl rfl rfl rfl) ?_
    refine scons (CStep.step (PStep.c (p_move (y := .val _) rfl (Sees.of rfl) rfl)) rfl rfl rfl rfl) ?_
    refine snil ?_
    refine f_block ?_
    refine f_loop (α := Nat) (fun i => i ≤ a.length ∧ ∀ j, j < i → a.getD j 0 = b.getD j 0) (fun i => [(13, iv i), (0, .val (ints a)), (1, .val (ints b)), (12, iv a.length)]) (fun i => a.length - i) 0 ?_ ?_ ?_
    · exact ⟨Nat.zero_le _, fun j hj => absurd hj (Nat.not_lt_zero _)⟩
    · exact le_ofL ⟨rfl, rfl, rfl, rfl, trivial⟩ rfl
    · rintro i ⟨hi, hp⟩
      refine f_seq ?_
      refine f_region ?_
      refine scons (CStep.step (PStep.c (p_lss rfl (Sees.of rfl) (Sees.of rfl))) rfl rfl rfl rfl) ?_
      refine snil ?_
      refine f_seq ?_
      refine f_cond rfl ?_ ?_
      · intro hc2
        try simp only [bs] at hc2
        refine f_skip ?_
        refine f_seq ?_
        refine f_block ?_
        refine f_seq ?_
        refine f_region ?_
        refine scons (CStep.step (PStep.c (p_move (y := .val _) rfl (Sees.of rfl) rfl)) rfl rfl rfl rfl) ?_
        refine scons (CStep.step (PStep.c (p_assign (y := .val _) rfl (Sees.of rfl) rfl)) rfl rfl rfl rfl) ?_
        refine snil ?_
        refine f_seq ?_
        refine f_draw wNorm_mix (by kernel_rfl) ?_
        refine dcons (CStep.step (PStep.c (p_move (y := .val _) rfl (Sees.of rfl) rfl)) rfl rfl rfl rfl) ?_
        refine dcons (CStep.step (PStep.c (p_move (y := .val _) rfl (Sees.of rfl) rfl)) rfl rfl rfl rfl) ?_
        refine dcons (CStep.step (PStep.c ((by first | exact p_indexN rfl wNorm_isl22 wNorm_siz3 (Sees.of rfl) (Sees.of rfl) (by omega) | exact p_index rfl wNorm_isl22 wNorm_siz3 (Sees.of rfl) (Sees.of rfl) (by omega) (by omega)))) rfl rfl rfl rfl) ?_
        refine dcons (CStep.step (PStep.c (p_load rfl wNorm_agg3 (Sees.of rfl) rfl)) rfl rfl rfl rfl) ?_
        refine dcons (CStep.step (PStep.c (p_move (y := .val _) rfl (Sees.of rfl) rfl)) rfl rfl rfl rfl) ?_
        refine dcons (CStep.step (PStep.c (p_move (y := .val _) rfl (Sees.of rfl) rfl)) rfl rfl rfl rfl) ?_
        refine dcons (CStep.step (PStep.c ((by first | exact p_indexN rfl wNorm_isl22 wNorm_siz3 (Sees.of rfl) (Sees.of rfl) (by omega) | exact p_index rfl wNorm_isl22 wNorm_siz3 (Sees.of rfl) (Sees.of rfl) (by omega) (by omega)))) rfl rfl rfl rfl) ?_
        refine dcons (CStep.step (PStep.c (p_load rfl wNorm_agg3 (Sees.of rfl) rfl)) rfl rfl rfl rfl) ?_
        refine dcons (CStep.step (PStep.c (p_neq rfl (Sees.of rfl) (Sees.of rfl))) rfl rfl rfl rfl) ?_
        refine dnil (by kernel_rfl) ?_
        refine f_cond rfl ?_ ?_
        · intro hc3
          try simp only [bs] at hc3
          refine f_seq ?_
          refine f_region ?_
          refine scons (CStep.step (PStep.c (p_assign (y := .val _) rfl (Sees.of rfl) rfl)) rfl rfl rfl rfl) ?_
          refine snil ?_
          refine f_ret ?_
          refine ends_ret (res_eq (res1 rfl (res_tmp rfl (Sees.of rfl))) ?_)
          rw [decide_eq_false (fun h => by rw [h] at hc3; simp at hc3)]
        · intro hc3
          try simp only [bs] at hc3
          refine f_skip ?_
          refine f_nil ?_
          show AWs _ _ _ _ _
          refine f_region ?_
          refine scons (CStep.step (PStep.c (p_add rfl (Sees.of rfl) (Sees.of rfl) (by omega))) rfl rfl rfl rfl) ?_
          refine scons (CStep.step (PStep.c (p_move (y := .val _) rfl (Sees.of rfl) rfl)) rfl rfl rfl rfl) ?_
          refine snil ?_
          refine f_back ⟨i + 1, ?_, ?_, le_ofL ⟨rfl, rfl, rfl, rfl, trivial⟩ rfl⟩
          · refine ⟨by omega, fun j hj => ?_⟩
            by_cases e : j = i
            · rw [e]; exact hc3
            · exact hp j (by omega)
          · omega
      · intro hc2
        try simp only [bs] at hc2
        refine f_exit ?_
        show AWs _ _ _ _ _
        refine f_seq ?_
        refine f_region ?_
        refine scons (CStep.step (PStep.c (p_assign (y := .val _) rfl (Sees.of rfl) rfl)) rfl rfl rfl rfl) ?_
        refine snil ?_
        refine f_ret ?_
        refine ends_ret (res_eq (res1 rfl (res_tmp rfl (Sees.of rfl))) ?_)
        rw [decide_eq_true (Sp.ints_eq (by omega) (fun j hj => hp j (by omega)))]

theorem compactF_spec (u : Nat) (xs : List (List Int)) (hl : xs.length ≤ 1000000) :
    SpecB Go.Proofs.Tryz.prog 115 [.row 30000 u, .val (.fn (α := List Int × List Int) (fun p => .cons (ints p.1) (.cons (ints p.2) .nil)) (fun p => .bool (decide (p.1 = p.2))))] [(30000, .arr u 22 1 24 ints [] xs)] (intss (Sp.compact [] xs)) [(30000, .dead u)] := by
  refine specB_of' Go.Proofs.Tryz.func115 rfl Go.Proofs.Tryz.ntmps115 rfl rfl rfl ?_
  refine f_seq ?_
  refine f_region ?_
  refine scons (CStep.step (PStep.c (p_assign (y := .emp) rfl (Sees.of rfl) rfl)) rfl rfl rfl rfl) ?_
  refine snil ?_
  refine f_seq ?_
  refine f_seq ?_
  refine f_region ?_
  refine scons (CStep.step (PStep.c (p_move (y := .row _ _) rfl (Sees.of rfl) rfl)) rfl rfl rfl rfl) ?_
  refine scons (CStep.step (PStep.c (p_lenR rfl wNorm_isl23 (Sees.of rfl) rfl)) rfl rfl rfl rfl) ?_
  refine scons (CStep.step (PStep.c (p_lss rfl (Sees.of rfl) (Sees.of rfl))) rfl rfl rfl rfl) ?_
  refine snil ?_
  refine f_cond rfl ?_ ?_
  · intro hc1
    try simp only [bs] at hc1
    refine f_seq ?_
    refine f_le (GLe.le (g_freeze (k := 0) (o1 := 30000) rfl rfl rfl rfl)) ?_ (by simp)
    refine f_region ?_
    refine scons (CStep.step (PStep.c (p_move (y := .val _) rfl (Sees.of rfl) rfl)) rfl rfl rfl rfl) ?_
    refine scons (CStep.step (PStep.c (p_assign (y := .val _) rfl (Sees.of rfl) rfl)) rfl rfl rfl rfl) ?_
    refine snil ?_
    refine f_ret ?_
    refine endsB_ret (resB_eq (resB_tmp rfl rfl (Sees.of rfl)) ?_) ⟨rfl, rfl, trivial⟩ rfl
    rw [Sp.compact_small (by omega)]
  · intro hc1
    try simp only [bs] at hc1
    refine f_skip ?_
    refine f_seq ?_
    refine f_seq ?_
    refine f_region ?_
    refine scons (CStep.step (PStep.c (p_assign (y := .val _) rfl (Sees.of rfl) rfl)) rfl rfl rfl rfl) ?_
    refine snil ?_
    refine f_block ?_
    refine f_loop (α := Nat) (fun k => 1 ≤ k ∧ k ≤ xs.length ∧ Sp.cmpTo [] xs k = xs.take k) (fun k => [(5, iv k), (0, .row 30000 u), (30000, .arr u 22 1 24 ints [] xs), (29999, .clo 0 (.ccons (.row 30000 u) .cnil)), (1, .val (.fn (α := List Int × List Int) (fun p => .cons (ints p.1) (.cons (ints p.2) .nil)) (fun p => .bool (decide (p.1 = p.2)))))]) (fun k => xs.length - k) 1 ?_ ?_ ?_
    · exact ⟨Nat.le_refl _, by omega, Sp.cmpTo_one (by omega)⟩
    · exact le_ofL ⟨rfl, rfl, rfl, rfl, rfl, trivial⟩ rfl
    · rintro k ⟨hk1, hk, hc⟩
      refine f_seq ?_
      refine f_seq ?_
      refine f_region ?_
      refine scons (CStep.step (PStep.c (p_move (y := .val _) rfl (Sees.of rfl) rfl)) rfl rfl rfl rfl) ?_
      refine scons (CStep.step (PStep.c (p_move (y := .row _ _) rfl (Sees.of rfl) rfl)) rfl rfl rfl rfl) ?_
      refine scons (CStep.step (PStep.c (p_lenR rfl wNorm_isl23 (Sees.of rfl) rfl)) rfl rfl rfl rfl) ?_
      refine scons (CStep.step (PStep.c (p_lss rfl (Sees.of rfl) (Sees.of rfl))) rfl rfl rfl rfl) ?_
      refine snil ?_
      refine f_cond rfl ?_ ?_
      · intro hc2
        try simp only [bs] at hc2
        refine f_skip ?_
        refine f_seq ?_
        refine f_block ?_
        refine f_seq ?_
        refine f_draw wNorm_mix (by kernel_rfl) ?_
        refine dcons (CStep.step (PStep.c (p_move (y := .val _) rfl (Sees.of rfl) rfl)) rfl rfl rfl rfl) ?_
        refine dcons (CStep.step (PStep.c (p_move (y := .row _ _) rfl (Sees.of rfl) rfl)) rfl rfl rfl rfl) ?_
        refine dcons (CStep.step (PStep.c (p_move (y := .val _) rfl (Sees.of rfl) rfl)) rfl rfl rfl rfl) ?_
        refine dcons (CStep.step (PStep.c ((by first | exact p_indexR rfl wNorm_isl23 wNorm_siz22 (Sees.of rfl) rfl (Sees.of rfl) (by omega) | exact p_indexRZ rfl wNorm_isl23 wNorm_siz22 (Sees.of rfl) rfl (Sees.of rfl) (by omega) (by omega)))) rfl rfl rfl rfl) ?_
        refine dcons (CStep.step (PStep.c (p_loadE rfl wNorm_agg22 (Sees.of rfl) rfl (by omega) (fun _ => rfl))) rfl rfl rfl rfl) ?_
        refine dcons (CStep.step (PStep.c (p_move (y := .row _ _) rfl (Sees.of rfl) rfl)) rfl rfl rfl rfl) ?_
        refine dcons (CStep.step (PStep.c (p_move (y := .val _) rfl (Sees.of rfl) rfl)) rfl rfl rfl rfl) ?_
        refine dcons (CStep.step (PStep.c (p_sub rfl (Sees.of rfl) (Sees.of rfl) (by omega))) rfl rfl rfl rfl) ?_
        refine dcons (CStep.step (PStep.c ((by first | exact p_indexR rfl wNorm_isl23 wNorm_siz22 (Sees.of rfl) rfl (Sees.of rfl) (by omega) | exact p_indexRZ rfl wNorm_isl23 wNorm_siz22 (Sees.of rfl) rfl (Sees.of rfl) (by omega) (by omega)))) rfl rfl rfl rfl) ?_
        refine dcons (CStep.step (PStep.c (p_loadE rfl wNorm_agg22 (Sees.of rfl) rfl (by omega) (fun _ => rfl))) rfl rfl rfl rfl) ?_
        refine dcons (CStep.step (c_callV (q := false) ((xs.getD k [], xs.getD ((k : Int) - 1).toNat [])) rfl (Sees.of rfl) rfl (sa_cons (sh_of (Sees.of rfl) rfl) (sa_cons (sh_of (Sees.of rfl) rfl) (sa_nil))) rfl) rfl rfl rfl rfl) ?_
        refine dnil (by kernel_rfl) ?_
        refine f_cond rfl ?_ ?_
        · intro hc3
          try simp only [bs] at hc3
          refine f_seq ?_
          have hfr : Sp.fresh [] xs k = false := Sp.fresh_no (by omega) (by have e : ((k : Int) - 1).toNat = k - 1 := (by omega); rw [e] at hc3; exact hc3)
          have hck : Sp.cmpTo [] xs (k + 1) = xs.take k := by rw [Sp.cmpTo_no hfr, hc]
          have hckl : (xs.take k).length = k := by simp; omega
          refine f_region ?_
          refine scons (CStep.step (PStep.c (p_move (y := .row _ _) rfl (Sees.of rfl) rfl)) rfl rfl rfl rfl) ?_
          refine scons (CStep.step (PStep.c (p_move (y := .val _) rfl (Sees.of rfl) rfl)) rfl rfl rfl rfl) ?_
          refine scons (CStep.step (PStep.c (p_subS (l := k) rfl wNorm_isl23 wNorm_siz22 (Sees.of rfl) rfl (Sees.of rfl) (by omega))) rfl rfl rfl rfl) ?_
          refine scons (CStep.step (PStep.c (p_assign (y := .sub _ _ _ _) rfl (Sees.of rfl) rfl)) rfl rfl rfl rfl) ?_
          refine snil ?_
          refine f_seq ?_
          refine f_seq ?_
          refine f_region ?_
          refine scons (CStep.step (PStep.c (p_assign (y := .val _) rfl (Sees.of rfl) rfl)) rfl rfl rfl rfl) ?_
          refine snil ?_
          refine f_block ?_
          refine f_loop (α := Nat) (fun j => k + 1 ≤ j ∧ j ≤ xs.length ∧ (Sp.cmpTo [] xs j).length + 1 ≤ j) (fun j => [(7, iv ((j : Int) - (k : Int))), (5, iv (Sp.cmpTo [] xs j).length), (6, .sub 30000 u 1 k), (0, .row 30000 u), (30000, .arr u 22 1 24 ints [] ((Sp.cmpTo [] xs j) ++ xs.drop (Sp.cmpTo [] xs j).length)), (29999, .clo 0 (.ccons (.row 30000 u) .cnil)), (1, .val (.fn (α := List Int × List Int) (fun p => .cons (ints p.1) (.cons (ints p.2) .nil)) (fun p => .bool (decide (p.1 = p.2)))))]) (fun j => xs.length - j) (k + 1) ?_ ?_ ?_
          · rw [hck, hckl]
            exact ⟨Nat.le_refl _, by omega, Nat.le_refl _⟩
          · exact le_ofL ⟨(by show AV.val (.int .i64 1) = AV.val (.int .i64 (((k + 1 : Nat) : Int) - (k : Int))); exact congrArg (fun q => AV.val (.int .i64 q)) (by omega)), (by rw [hck, hckl]; rfl), rfl, rfl, (by rw [hck, hckl, List.take_append_drop]; rfl), rfl, rfl, trivial⟩ rfl
          · rintro j ⟨hj1, hj, hcl⟩
            have hrl := Sp.row_len (xs := xs) (c := (Sp.cmpTo [] xs j)) (by omega)
            refine f_seq ?_
            refine f_seq ?_
            refine f_region ?_
            refine scons (CStep.step (PStep.c (p_move (y := .val _) rfl (Sees.of rfl) rfl)) rfl rfl rfl rfl) ?_
            refine scons (CStep.step (PStep.c (p_move (y := .sub _ _ _ _) rfl (Sees.of rfl) rfl)) rfl rfl rfl rfl) ?_
            refine scons (CStep.step (PStep.c (p_lenS rfl wNorm_isl23 (Sees.of rfl) rfl)) rfl rfl rfl rfl) ?_
            refine scons (CStep.step (PStep.c (p_lss rfl (Sees.of rfl) (Sees.of rfl))) rfl rfl rfl rfl) ?_
            refine snil ?_
            refine f_cond rfl ?_ ?_
            · intro hc4
              try simp only [bs] at hc4
              refine f_skip ?_
              refine f_seq ?_
              refine f_block ?_
              refine f_seq ?_
              have e1 : k + ((j : Int) - (k : Int)).toNat = j := by omega
              have e2 : k + ((j : Int) - (k : Int) - 1).toNat = j - 1 := by omega
              have r1 := Sp.row_at (xs := xs) (z := []) (c := (Sp.cmpTo [] xs j)) (j := j) (by omega)
              have r2 := Sp.row_at (xs := xs) (z := []) (c := (Sp.cmpTo [] xs j)) (j := j - 1) (by omega)
              refine f_draw wNorm_mix (by kernel_rfl) ?_
              refine dcons (CStep.step (PStep.c (p_move (y := .val _) rfl (Sees.of rfl) rfl)) rfl rfl rfl rfl) ?_
              refine dcons (CStep.step (PStep.c (p_move (y := .sub _ _ _ _) rfl (Sees.of rfl) rfl)) rfl rfl rfl rfl) ?_
              refine dcons (CStep.step (PStep.c (p_move (y := .val _) rfl (Sees.of rfl) rfl)) rfl rfl rfl rfl) ?_
              refine dcons (CStep.step (PStep.c ((by first | exact p_indexS rfl wNorm_isl23 wNorm_siz22 (Sees.of rfl) rfl (Sees.of rfl) (by omega) | exact p_indexSZ rfl wNorm_isl23 wNorm_siz22 (Sees.of rfl) rfl (Sees.of rfl) (by omega) (by omega)))) rfl rfl rfl rfl) ?_
              refine dcons (CStep.step (PStep.c (p_loadE rfl wNorm_agg22 (Sees.of rfl) rfl (by omega) (fun _ => rfl))) rfl rfl rfl rfl) ?_
              refine dcons (CStep.step (PStep.c (p_move (y := .sub _ _ _ _) rfl (Sees.of rfl) rfl)) rfl rfl rfl rfl) ?_
              refine dcons (CStep.step (PStep.c (p_move (y := .val _) rfl (Sees.of rfl) rfl)) rfl rfl rfl rfl) ?_
              refine dcons (CStep.step (PStep.c (p_sub rfl (Sees.of rfl) (Sees.of rfl) (by omega))) rfl rfl rfl rfl) ?_
              refine dcons (CStep.step (PStep.c ((by first | exact p_indexS rfl wNorm_isl23 wNorm_siz22 (Sees.of rfl) rfl (Sees.of rfl) (by omega) | exact p_indexSZ rfl wNorm_isl23 wNorm_siz22 (Sees.of rfl) rfl (Sees.of rfl) (by omega) (by omega)))) rfl rfl rfl rfl) ?_
              refine dcons (CStep.step (PStep.c (p_loadE rfl wNorm_agg22 (Sees.of rfl) rfl (by omega) (fun _ => rfl))) rfl rfl rfl rfl) ?_
              refine dcons (CStep.step (c_callV (q := false) ((((Sp.cmpTo [] xs j) ++ xs.drop (Sp.cmpTo [] xs j).length).getD (k + ((j : Int) - (k : Int)).toNat) [], ((Sp.cmpTo [] xs j) ++ xs.drop (Sp.cmpTo [] xs j).length).getD (k + ((j : Int) - (k : Int) - 1).toNat) [])) rfl (Sees.of rfl) rfl (sa_cons (sh_of (Sees.of rfl) rfl) (sa_cons (sh_of (Sees.of rfl) rfl) (sa_nil))) rfl) rfl rfl rfl rfl) ?_
              refine dcons (CStep.step (PStep.c (p_not rfl (Sees.of rfl))) rfl rfl rfl rfl) ?_
              refine dnil (by kernel_rfl) ?_
              refine f_cond rfl ?_ ?_
              · intro hc5
                try simp only [bs] at hc5
                refine f_seq ?_
                refine f_region ?_
                refine scons (CStep.step (PStep.c (p_move (y := .row _ _) rfl (Sees.of rfl) rfl)) rfl rfl rfl rfl) ?_
                refine scons (CStep.step (PStep.c (p_move (y := .val _) rfl (Sees.of rfl) rfl)) rfl rfl rfl rfl) ?_
                refine scons (CStep.step (PStep.c (p_move (y := .sub _ _ _ _) rfl (Sees.of rfl) rfl)) rfl rfl rfl rfl) ?_
                refine scons (CStep.step (PStep.c (p_move (y := .val _) rfl (Sees.of rfl) rfl)) rfl rfl rfl rfl) ?_
                refine scons (CStep.step (PStep.c ((by first | exact p_indexS rfl wNorm_isl23 wNorm_siz22 (Sees.of rfl) rfl (Sees.of rfl) (by omega) | exact p_indexSZ rfl wNorm_isl23 wNorm_siz22 (Sees.of rfl) rfl (Sees.of rfl) (by omega) (by omega)))) rfl rfl rfl rfl) ?_
                refine scons (CStep.step (PStep.c (p_loadE rfl wNorm_agg22 (Sees.of rfl) rfl (by omega) (fun _ => rfl))) rfl rfl rfl rfl) ?_
                refine scons (CStep.step (PStep.c ((by first | exact p_indexR rfl wNorm_isl23 wNorm_siz22 (Sees.of rfl) rfl (Sees.of rfl) (by omega) | exact p_indexRZ rfl wNorm_isl23 wNorm_siz22 (Sees.of rfl) rfl (Sees.of rfl) (by omega) (by omega)))) rfl rfl rfl rfl) ?_
                refine scons (r_storeE rfl wNorm_siz22 rfl rfl rfl (Sees.of rfl) rfl (by omega) (Sees.of rfl) rfl) ?_
                refine snil ?_
                refine f_region ?_
                refine scons (CStep.step (PStep.c (p_move (y := .val _) rfl (Sees.of rfl) rfl)) rfl rfl rfl rfl) ?_
                refine scons (CStep.step (PStep.c (p_add rfl (Sees.of rfl) (Sees.of rfl) (by omega))) rfl rfl rfl rfl) ?_
                refine scons (CStep.step (PStep.c (p_assign (y := .val _) rfl (Sees.of rfl) rfl)) rfl rfl rfl rfl) ?_
                refine snil ?_
                refine f_nil ?_
                show AWs _ _ _ _ _
                refine f_region ?_
                refine scons (CStep.step (PStep.c (p_move (y := .val _) rfl (Sees.of rfl) rfl)) rfl rfl rfl rfl) ?_
                refine scons (CStep.step (PStep.c (p_add rfl (Sees.of rfl) (Sees.of rfl) (by omega))) rfl rfl rfl rfl) ?_
                refine scons (CStep.step (PStep.c (p_assign (y := .val _) rfl (Sees.of rfl) rfl)) rfl rfl rfl rfl) ?_
                refine snil ?_
                refine f_back ⟨j + 1, ?_, ?_, le_ofL ⟨(by show AV.val (.int .i64 ((j : Int) - (k : Int) + 1)) = _; exact congrArg (fun q => AV.val (.int .i64 q)) (by omega)), (by rw [Sp.cmpTo_yes (Sp.fresh_yes (by rw [e1, e2, r1, r2] at hc5; exact hc5)), List.length_append]; show AV.val (.int .i64 ((Sp.cmpTo [] xs j).length + 1)) = _; simp), rfl, rfl, (by rw [Sp.cmpTo_yes (Sp.fresh_yes (by rw [e1, e2, r1, r2] at hc5; exact hc5))]; show AV.arr _ _ _ _ _ _ (((Sp.cmpTo [] xs j) ++ xs.drop (Sp.cmpTo [] xs j).length).set (Sp.cmpTo [] xs j).length (((Sp.cmpTo [] xs j) ++ xs.drop (Sp.cmpTo [] xs j).length).getD (k + ((j : Int) - (k : Int)).toNat) [])) = _; rw [e1, r1, Sp.set_next (by omega)]; congr 2; rw [List.length_append]; rfl), rfl, rfl, trivial⟩ rfl⟩
                · have hy : (Sp.cmpTo [] xs (j + 1)) = (Sp.cmpTo [] xs j) ++ [xs.getD j []] := Sp.cmpTo_yes (Sp.fresh_yes (by rw [e1, e2, r1, r2] at hc5; exact hc5))
                  rw [hy, List.length_append]
                  exact ⟨by omega, by omega, by simp; omega⟩
                · omega
              · intro hc5
                try simp only [bs] at hc5
                refine f_skip ?_
                refine f_nil ?_
                show AWs _ _ _ _ _
                refine f_region ?_
                refine scons (CStep.step (PStep.c (p_move (y := .val _) rfl (Sees.of rfl) rfl)) rfl rfl rfl rfl) ?_
                refine scons (CStep.step (PStep.c (p_add rfl (Sees.of rfl) (Sees.of rfl) (by omega))) rfl rfl rfl rfl) ?_
                refine scons (CStep.step (PStep.c (p_assign (y := .val _) rfl (Sees.of rfl) rfl)) rfl rfl rfl rfl) ?_
                refine snil ?_
                refine f_back ⟨j + 1, ?_, ?_, le_ofL ⟨(by show AV.val (.int .i64 ((j : Int) - (k : Int) + 1)) = _; exact congrArg (fun q => AV.val (.int .i64 q)) (by omega)), (by rw [Sp.cmpTo_no (Sp.fresh_no (by omega) (by rw [e1, e2, r1, r2] at hc5; exact hc5))]; rfl), rfl, rfl, (by rw [Sp.cmpTo_no (Sp.fresh_no (by omega) (by rw [e1, e2, r1, r2] at hc5; exact hc5))]; rfl), rfl, rfl, trivial⟩ rfl⟩
                · have hy : (Sp.cmpTo [] xs (j + 1)) = (Sp.cmpTo [] xs j) := Sp.cmpTo_no (Sp.fresh_no (by omega) (by rw [e1, e2, r1, r2] at hc5; exact hc5))
                  rw [hy]
                  exact ⟨by omega, by omega, by omega⟩
                · omega
            · intro hc4
              try simp only [bs] at hc4
              refine f_exit ?_
              show AWs _ _ _ _ _
              refine f_seq ?_
              refine f_region ?_
              refine scons (CStep.step (PStep.c (p_move (y := .row _ _) rfl (Sees.of rfl) rfl)) rfl rfl rfl rfl) ?_
              refine scons (CStep.step (PStep.c (p_move (y := .val _) rfl (Sees.of rfl) rfl)) rfl rfl rfl rfl) ?_
              refine scons (CStep.step (PStep.c (p_subS (l := (Sp.cmpTo [] xs j).length) rfl wNorm_isl23 wNorm_siz22 (Sees.of rfl) rfl (Sees.of rfl) (by omega))) rfl rfl rfl rfl) ?_
              refine scons (r_clearS (f := ints) (z := []) rfl wNorm_isl23 wNorm_zer22 rfl rfl zr_list rfl rfl rfl (Sees.of rfl) rfl (by omega)) ?_
              refine snil ?_
              refine f_seq ?_
              have hl15 : (List.take (Sp.cmpTo [] xs j).length ((Sp.cmpTo [] xs j) ++ xs.drop (Sp.cmpTo [] xs j).length) ++ List.replicate (((Sp.cmpTo [] xs j) ++ xs.drop (Sp.cmpTo [] xs j).length).length - (Sp.cmpTo [] xs j).length) []).length = xs.length := by simp; omega
              refine f_region ?_
              refine scons (CStep.step (PStep.c (p_move (y := .row _ _) rfl (Sees.of rfl) rfl)) rfl rfl rfl rfl) ?_
              refine scons (CStep.step (PStep.c (p_move (y := .val _) rfl (Sees.of rfl) rfl)) rfl rfl rfl rfl) ?_
              refine scons (LStep.pre (g_freeze (k := 62) (o1 := 30000) rfl rfl rfl rfl) (CStep.step (PStep.c (p_slice  rfl wNorm_isl23 wNorm_siz22 (Sees.of rfl) rfl (Sees.of rfl) (by omega) (by omega))) rfl rfl rfl rfl)) ?_
              refine scons (CStep.step (PStep.c (p_assign (y := .val _) rfl (Sees.of rfl) rfl)) rfl rfl rfl rfl) ?_
              refine snil ?_
              refine f_ret ?_
              refine endsB_ret (resB_eq (resB_tmp rfl rfl (Sees.of rfl)) ?_) ⟨rfl, rfl, trivial⟩ rfl
              obtain rfl : j = xs.length := by omega
              rw [Sp.cleared]
              rfl
        · intro hc3
          try simp only [bs] at hc3
          refine f_skip ?_
          refine f_nil ?_
          show AWs _ _ _ _ _
          refine f_region ?_
          refine scons (CStep.step (PStep.c (p_move (y := .val _) rfl (Sees.of rfl) rfl)) rfl rfl rfl rfl) ?_
          refine scons (CStep.step (PStep.c (p_add rfl (Sees.of rfl) (Sees.of rfl) (by omega))) rfl rfl rfl rfl) ?_
          refine scons (CStep.step (PStep.c (p_assign (y := .val _) rfl (Sees.of rfl) rfl)) rfl rfl rfl rfl) ?_
          refine snil ?_
          refine f_back ⟨k + 1, ?_, ?_, le_ofL ⟨rfl, rfl, rfl, rfl, rfl, trivial⟩ rfl⟩
          · exact ⟨by omega, by omega, Sp.cmpTo_same (by omega) hc (Sp.fresh_yes (by have e : ((k : Int) - 1).toNat = k - 1 := (by omega); rw [e] at hc3; exact hc3))⟩
          · omega
      · intro hc2
        try simp only [bs] at hc2
        refine f_exit ?_
        show AWs _ _ _ _ _
        refine f_seq ?_
        refine f_le (GLe.le (g_freeze (k := 0) (o1 := 30000) rfl rfl rfl rfl)) ?_ (by simp)
        refine f_region ?_
        refine scons (CStep.step (PStep.c (p_move (y := .val _) rfl (Sees.of rfl) rfl)) rfl rfl rfl rfl) ?_
        refine scons (CStep.step (PStep.c (p_assign (y := .val _) rfl (Sees.of rfl) rfl)) rfl rfl rfl rfl) ?_
        refine snil ?_
        refine f_ret ?_
        refine endsB_ret (resB_eq (resB_tmp rfl rfl (Sees.of rfl)) ?_) ⟨rfl, rfl, trivial⟩ rfl
        obtain rfl : k = xs.length := by omega
        rw [Sp.compact_same hc]

theorem normal1_spec (a b : List Int) (ha : a.length ≤ 1000000 ∧ ∀ x ∈ a, -9223372036854775808 < x ∧ x ≤ 9223372036854775807) (hb : b.length ≤ 1000000 ∧ ∀ x ∈ b, -9223372036854775808 < x ∧ x ≤ 9223372036854775807) :
    Spec Go.Proofs.Tryz.prog 112 [.val (ints a), .val (ints b)] (di (Sp.cmpL Sp.ord a b)) := by
  refine spec_of' Go.Proofs.Tryz.func112 rfl Go.Proofs.Tryz.ntmps112 rfl ?_
  refine f_seq ?_
  refine f_region ?_
  refine scons (CStep.step (PStep.c (p_assign (y := .val _) rfl (Sees.of rfl) rfl)) rfl rfl rfl rfl) ?_
  refine snil ?_
  refine f_seq ?_
  refine f_region ?_
  refine scons (CStep.step (PStep.c (p_move (y := .val _) rfl (Sees.of rfl) rfl)) rfl rfl rfl rfl) ?_
  refine scons (CStep.step (PStep.c (p_move (y := .val _) rfl (Sees.of rfl) rfl)) rfl rfl rfl rfl) ?_
  refine scons (CStep.step (c_callS (q := false) rfl wNorm_isf113 (cmpFn_spec a b Sp.ord (fun x => -9223372036854775808 < x ∧ x ≤ 9223372036854775807) ha.2 hb.2) (sa_cons (sh_of (Sees.of rfl) rfl) (sa_cons (sh_of (Sees.of rfl) rfl) (sa_cons (sh_clo (Sees.of rfl) wNorm_isf92 (sl_nil) (fun _ => rfl) (fun _ => rfl) (fun y => order_spec y.1.1 y.1.2 y.2.1 y.2.2)) (sa_nil)))) rfl) rfl rfl rfl rfl) ?_
  refine scons (CStep.step (PStep.c (p_assign (y := .val _) rfl (Sees.of rfl) rfl)) rfl rfl rfl rfl) ?_
  refine snil ?_
  refine f_ret ?_
  refine ends_ret (res_eq (res1 rfl (res_tmp rfl (Sees.of rfl))) ?_)
  rfl

theorem normal2_spec (a b : List Int) :
    Spec Go.Proofs.Tryz.prog 116 [.val (ints a), .val (ints b)] (D.bool (decide (a = b))) := by
  refine spec_of' Go.Proofs.Tryz.func116 rfl Go.Proofs.Tryz.ntmps116 rfl ?_
  refine f_seq ?_
  refine f_region ?_
  refine scons (CStep.step (PStep.c (p_assign (y := .val _) rfl (Sees.of rfl) rfl)) rfl rfl rfl rfl) ?_
  refine snil ?_
  refine f_seq ?_
  refine f_region ?_
  refine scons (CStep.step (PStep.c (p_move (y := .val _) rfl (Sees.of rfl) rfl)) rfl rfl rfl rfl) ?_
  refine scons (CStep.step (PStep.c (p_move (y := .val _) rfl (Sees.of rfl) rfl)) rfl rfl rfl rfl) ?_
  refine scons (CStep.step (c_call rfl wNorm_isf54 ⟨_, _, rfl, (Sees.of rfl), rfl, ⟨_, _, rfl, (Sees.of rfl), rfl, rfl⟩⟩ (equal_spec a b)) rfl rfl rfl rfl) ?_
  refine scons (CStep.step (PStep.c (p_assign (y := .val _) rfl (Sees.of rfl) rfl)) rfl rfl rfl rfl) ?_
  refine snil ?_
  refine f_ret ?_
  refine ends_ret (res_eq (res1 rfl (res_tmp rfl (Sees.of rfl))) ?_)
  rfl

theorem normal_spec (ls : List (List Int)) (hll : ls.length ≤ 1000000) (hl : ∀ l ∈ ls, l.length ≤ 1000000 ∧ ∀ x ∈ l, -9223372036854775808 < x ∧ x ≤ 9223372036854775807) :
    Spec Go.Proofs.Tryz.prog 70 [.val (intss ls)] (intss (Sp.nrm ls)) := by
  refine spec_of' Go.Proofs.Tryz.func70 rfl Go.Proofs.Tryz.ntmps70 rfl ?_
  refine f_seq ?_
  refine f_region ?_
  refine scons (CStep.step (PStep.c (p_assign (y := .emp) rfl (Sees.of rfl) rfl)) rfl rfl rfl rfl) ?_
  refine snil ?_
  refine f_seq ?_
  refine f_region ?_
  refine scons (CStep.step (PStep.c (p_assign (y := .emp) rfl (Sees.of rfl) rfl)) rfl rfl rfl rfl) ?_
  refine snil ?_
  refine f_seq ?_
  refine f_seq ?_
  refine f_region ?_
  refine scons (CStep.step (PStep.c (p_move (y := .val _) rfl (Sees.of rfl) rfl)) rfl rfl rfl rfl) ?_
  refine scons (CStep.step (PStep.c (p_len rfl wNorm_isl23 (Sees.of rfl))) rfl rfl rfl rfl) ?_
  refine scons (CStep.step (PStep.c (p_move (y := .val _) rfl (Sees.of rfl) rfl)) rfl rfl rfl rfl) ?_
  refine snil ?_
  refine f_block ?_
  refine f_loop (α := Nat × Nat) (fun (i, u) => i ≤ ls.length) (fun (i, u) => [(9, iv i), (3, .row 30000 u), (30000, .arr u 22 1 24 ints [] ((ls.take i).map Sp.litSort)), (2, .emp), (7, .val (intss ls)), (8, iv ls.length)]) (fun (i, u) => ls.length - i) (0, 0) ?_ ?_ ?_
  · exact Nat.zero_le _
  · exact Le.trans (GLe.le (g_adopt (ob := 30000) (k := 3) 22 1 24 ints [] rfl rfl rfl rfl)) (le_ofL ⟨rfl, rfl, rfl, rfl, rfl, rfl, trivial⟩ rfl)
  · rintro ⟨i, u⟩ hi
    have hi : i ≤ ls.length := hi
    refine f_seq ?_
    refine f_region ?_
    refine scons (CStep.step (PStep.c (p_lss rfl (Sees.of rfl) (Sees.of rfl))) rfl rfl rfl rfl) ?_
    refine snil ?_
    refine f_seq ?_
    refine f_cond rfl ?_ ?_
    · intro hc1
      try simp only [bs] at hc1
      refine f_skip ?_
      refine f_seq ?_
      refine f_block ?_
      refine f_seq ?_
      refine f_region ?_
      refine scons (CStep.step (PStep.c ((by first | exact p_indexN rfl wNorm_isl23 wNorm_siz22 (Sees.of rfl) (Sees.of rfl) (by omega) | exact p_index rfl wNorm_isl23 wNorm_siz22 (Sees.of rfl) (Sees.of rfl) (by omega) (by omega)))) rfl rfl rfl rfl) ?_
      refine scons (CStep.step (PStep.c (p_load rfl wNorm_agg22 (Sees.of rfl) rfl)) rfl rfl rfl rfl) ?_
      refine scons (CStep.step (PStep.c (p_assign (y := .val _) rfl (Sees.of rfl) rfl)) rfl rfl rfl rfl) ?_
      refine snil ?_
      refine f_region ?_
      refine scons (CStep.step (PStep.c (p_move (y := .row _ _) rfl (Sees.of rfl) rfl)) rfl rfl rfl rfl) ?_
      refine scons (CStep.step (PStep.c (p_move (y := .val _) rfl (Sees.of rfl) rfl)) rfl rfl rfl rfl) ?_
      refine scons (CStep.step (c_call rfl wNorm_isf51 ⟨_, _, rfl, (Sees.of rfl), rfl, rfl⟩ (sorted_spec (ls.getD i []) (hl _ (Sp.getD_mem ls i [] (by omega))).1 (hl _ (Sp.getD_mem ls i [] (by omega))).2)) rfl rfl rfl rfl) ?_
      refine scons (CStep.step (c_buildSlice (f := ints) (za := []) (xs := [.tmp 15]) rfl rfl wNorm_isl23 wNorm_siz22 wNorm_zer22 rfl rfl ⟨_, _, rfl, (Sees.of rfl), rfl, rfl, rfl⟩) rfl rfl rfl rfl) ?_
      refine scons (r_appendR (ob := 30000) rfl wNorm_isl23 wNorm_siz22 wNorm_byt22 wNorm_zer22 rfl rfl (Sees.of rfl) rfl (Sees.of rfl) (by simp only [List.length_map, List.length_take, List.length_cons, List.length_nil]; omega) (by simp only [List.length_map, List.length_take, List.length_cons, List.length_nil]; omega) rfl rfl rfl rfl rfl) ?_
      refine scons (CStep.step (PStep.c (p_assign (y := .row _ _) rfl (Sees.of rfl) rfl)) rfl rfl rfl rfl) ?_
      refine snil ?_
      refine f_nil ?_
      show AWs _ _ _ _ _
      refine f_region ?_
      refine scons (CStep.step (PStep.c (p_add rfl (Sees.of rfl) (Sees.of rfl) (by omega))) rfl rfl rfl rfl) ?_
      refine scons (CStep.step (PStep.c (p_move (y := .val _) rfl (Sees.of rfl) rfl)) rfl rfl rfl rfl) ?_
      refine snil ?_
      refine f_back ⟨(i + 1, u + 1), ?_, ?_, le_ofL ⟨rfl, rfl, (by rw [Sp.take_getD ls i [] (by omega), List.map_append]; rfl), rfl, rfl, rfl, trivial⟩ rfl⟩
      · show i + 1 ≤ ls.length
        omega
      · show ls.length - (i + 1) < ls.length - i
        omega
    · intro hc1
      try simp only [bs] at hc1
      refine f_exit ?_
      show AWs _ _ _ _ _
      refine f_seq ?_
      refine f_region ?_
      refine scons (CStep.step (PStep.c (p_assign (y := .clo _ _) rfl (Sees.of rfl) rfl)) rfl rfl rfl rfl) ?_
      refine snil ?_
      refine f_seq ?_
      refine f_region ?_
      refine scons (CStep.step (PStep.c (p_move (y := .row _ _) rfl (Sees.of rfl) rfl)) rfl rfl rfl rfl) ?_
      refine scons (CStep.step (PStep.c (p_move (y := .clo _ _) rfl (Sees.of rfl) rfl)) rfl rfl rfl rfl) ?_
      refine scons (r_callB rfl wNorm_isf114 (sortFc_spec Go.Proofs.Tryz.laySFII ints [] (fun l => l.length ≤ 1000000 ∧ ∀ x ∈ l, -9223372036854775808 < x ∧ x ≤ 9223372036854775807) (Sp.cmpL Sp.ord) (fun _ => rfl) (by rw [ltOf_ord]; exact lt_swo Sp.lt_lit.list) (by rw [ltOf_ord]; exact Sp.lt_lit.list.tot) (F := 112) (by unfold IsFn; kernel_rfl) (fun x y hx hy => normal1_spec x y hx hy) u 22 24 ((ls.take i).map Sp.litSort) (((ls.take i).map Sp.litSort).mergeSort fun x y => !Sp.ltL Sp.ltO y x) (by rw [ltOf_ord]) (fun x hx => by obtain ⟨l, h1, rfl⟩ := List.mem_map.1 hx; have h1 := List.mem_of_mem_take h1; exact ⟨by rw [Sp.litSort_len]; exact (hl l h1).1, fun y hy => (hl l h1).2 y (Sp.litSort_mem.1 hy)⟩)) ⟨_, _, rfl, (Sees.of rfl), ⟨_, _, rfl, (Sees.of rfl), rfl⟩⟩ ⟨rfl, trivial⟩ rfl rfl rfl rfl rfl rfl) ?_
      refine snil ?_
      refine f_seq ?_
      refine f_region ?_
      refine scons (CStep.step (PStep.c (p_move (y := .row _ _) rfl (Sees.of rfl) rfl)) rfl rfl rfl rfl) ?_
      refine scons (r_callB rfl wNorm_isf115 ((compactF_spec u (((ls.take i).map Sp.litSort).mergeSort fun x y => !Sp.ltL Sp.ltO y x) (by rw [List.length_mergeSort, List.length_map, List.length_take]; omega)).clo2 (F := 116) (by unfold IsFn; kernel_rfl) (fun _ => rfl) (fun p => normal2_spec p.1 p.2)) ⟨_, _, rfl, (Sees.of rfl), ⟨_, _, rfl, (Sees.of rfl), rfl⟩⟩ ⟨rfl, trivial⟩ rfl rfl rfl rfl rfl rfl) ?_
      refine scons (CStep.step (PStep.c (p_assign (y := .val _) rfl (Sees.of rfl) rfl)) rfl rfl rfl rfl) ?_
      refine snil ?_
      refine f_ret ?_
      refine ends_ret (res_eq (res1 rfl (res_tmp rfl (Sees.of rfl))) ?_)
      rw [List.take_of_length_le (by omega)]
      rfl

theorem clip_spec (ls : List (List Int)) :
    Spec Go.Proofs.Tryz.prog 32 [.val (intss ls)] (intss ls) := by
  refine spec_of' Go.Proofs.Tryz.func32 rfl Go.Proofs.Tryz.ntmps32 rfl ?_
  refine f_seq ?_
  refine f_region ?_
  refine scons (CStep.step (PStep.c (p_assign (y := .emp) rfl (Sees.of rfl) rfl)) rfl rfl rfl rfl) ?_
  refine snil ?_
  refine f_seq ?_
  refine f_region ?_
  refine scons (CStep.step (PStep.c (p_move (y := .val _) rfl (Sees.of rfl) rfl)) rfl rfl rfl rfl) ?_
  refine scons (CStep.step (PStep.c (p_move (y := .val _) rfl (Sees.of rfl) rfl)) rfl rfl rfl rfl) ?_
  refine scons (CStep.step (PStep.c (p_len rfl wNorm_isl23 (Sees.of rfl))) rfl rfl rfl rfl) ?_
  refine scons (CStep.step (PStep.c (p_move (y := .val _) rfl (Sees.of rfl) rfl)) rfl rfl rfl rfl) ?_
  refine scons (CStep.step (PStep.c (p_len rfl wNorm_isl23 (Sees.of rfl))) rfl rfl rfl rfl) ?_
  refine scons (CStep.step (PStep.c (p_clip rfl wNorm_isl23 wNorm_siz22 (Sees.of rfl) (Sees.of rfl) (Sees.of rfl))) rfl rfl rfl rfl) ?_
  refine scons (CStep.step (PStep.c (p_assign (y := .val _) rfl (Sees.of rfl) rfl)) rfl rfl rfl rfl) ?_
  refine snil ?_
  refine f_ret ?_
  refine ends_ret (res_eq (res1 rfl (res_tmp rfl (Sees.of rfl))) ?_)
  rfl

end Go.Um
