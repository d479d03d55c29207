/- Walks of Go functions of this seat, each by its contract. No condition beyond what each theorem says. -/
import Derived.Test.YtpjenbbalengoaaBB
import Derived.Test.YtpjenbbalengoaaPA
import Derived.Test.YtpjenbbalengoaaProg
import Derived.KernelRfl
set_option maxRecDepth 4000
namespace Go.Um
open Go Go.RowKit

theorem wCnf_agg26 : IsAgg Go.Proofs.Try.prog 26 true := by unfold IsAgg; kernel_rfl
theorem wCnf_agg3 : IsAgg Go.Proofs.Try.prog 3 false := by unfold IsAgg; kernel_rfl
theorem wCnf_agg33 : IsAgg Go.Proofs.Try.prog 33 false := by unfold IsAgg; kernel_rfl
theorem wCnf_agg37 : IsAgg Go.Proofs.Try.prog 37 false := by unfold IsAgg; kernel_rfl
theorem wCnf_agg39 : IsAgg Go.Proofs.Try.prog 39 true := by unfold IsAgg; kernel_rfl
theorem wCnf_fld26_0 : IsField Go.Proofs.Try.prog 26 0 0 3 := by unfold IsField; kernel_rfl
theorem wCnf_fld39_0 : IsField Go.Proofs.Try.prog 39 0 0 3 := by unfold IsField; kernel_rfl
theorem wCnf_fld39_1 : IsField Go.Proofs.Try.prog 39 1 1 37 := by unfold IsField; kernel_rfl
theorem wCnf_isf101 : IsFn Go.Proofs.Try.prog 101 := by unfold IsFn; kernel_rfl
theorem wCnf_isf102 : IsFn Go.Proofs.Try.prog 102 := by unfold IsFn; kernel_rfl
theorem wCnf_isf116 : IsFn Go.Proofs.Try.prog 116 := by unfold IsFn; kernel_rfl
theorem wCnf_isf121 : IsFn Go.Proofs.Try.prog 121 := by unfold IsFn; kernel_rfl
theorem wCnf_isf151 : IsFn Go.Proofs.Try.prog 151 := by unfold IsFn; kernel_rfl
theorem wCnf_isf153 : IsFn Go.Proofs.Try.prog 153 := by unfold IsFn; kernel_rfl
theorem wCnf_isf154 : IsFn Go.Proofs.Try.prog 154 := by unfold IsFn; kernel_rfl
theorem wCnf_isf71 : IsFn Go.Proofs.Try.prog 71 := by unfold IsFn; kernel_rfl
theorem wCnf_isf78 : IsFn Go.Proofs.Try.prog 78 := by unfold IsFn; kernel_rfl
theorem wCnf_isl33 : IsSlice Go.Proofs.Try.prog 33 3 := by unfold IsSlice; kernel_rfl
theorem wCnf_isl37 : IsSlice Go.Proofs.Try.prog 37 33 := by unfold IsSlice; kernel_rfl
theorem wCnf_mix : (Go.Proofs.Try.prog).follows .mixedOrders = true := by kernel_rfl
theorem wCnf_plc26 : Places Go.Proofs.Try.prog 26 [(0, 1), (1, 1)] := by unfold Places; kernel_rfl
theorem wCnf_siz26 : Size Go.Proofs.Try.prog 26 2 := by unfold Size; kernel_rfl
theorem wCnf_siz3 : Size Go.Proofs.Try.prog 3 1 := by unfold Size; kernel_rfl
theorem wCnf_siz33 : Size Go.Proofs.Try.prog 33 1 := by unfold Size; kernel_rfl
theorem wCnf_siz37 : Size Go.Proofs.Try.prog 37 1 := by unfold Size; kernel_rfl
theorem wCnf_siz39 : Size Go.Proofs.Try.prog 39 2 := by unfold Size; kernel_rfl
def wCnf_z26 : D := .cons (.int .i64 0) (.cons (.int .i64 0) (.nil))
theorem wCnf_zch26 : ∀ (ok : Nat → Prop) (w : World), R Go.Proofs.Try.prog wCnf_z26 ok w (Value.cells (.agg #[(.int .i64 0), (.int .i64 0)])).toList := fun _ _ => z_int (z_int (z_nil))
theorem wCnf_zer26 : Zero Go.Proofs.Try.prog 26 (.agg #[(.int .i64 0), (.int .i64 0)]) := by unfold Zero; kernel_rfl
theorem wCnf_zer3 : Zero Go.Proofs.Try.prog 3 (.int .i64 0) := by unfold Zero; kernel_rfl

theorem has_spec (l : List Int) (x : Int) :
    Spec Go.Proofs.Try.prog 78 [.val (ints l), iv x] (D.bool (decide (x ∈ l))) := by
  refine spec_of' Go.Proofs.Try.func78 rfl Go.Proofs.Try.ntmps78 rfl ?_
  refine f_seq ?_
  refine f_wf (.tmp 0) rfl (fun hwf => ?_) (by simp)
  have hlen : l.length ≤ 140737488355328 := hwf.1
  clear hwf
  refine f_region ?_
  refine scons (CStep.step (PStep.c (p_assign (y := .val _) rfl (Sees.of rfl) rfl)) rfl rfl rfl rfl) ?_
  refine snil ?_
  refine f_seq ?_
  refine f_seq ?_
  refine f_region ?_
  refine scons (CStep.step (PStep.c (p_assign (y := .val _) rfl (Sees.of rfl) rfl)) rfl rfl rfl rfl) ?_
  refine snil ?_
  refine f_block ?_
  refine f_loop (α := Nat) (fun i => i ≤ l.length ∧ x ∉ l.take i) (fun i => [(5, iv i), (0, .val (ints l)), (1, iv x)]) (fun i => l.length - i) 0 ?_ ?_ ?_
  · exact ⟨Nat.zero_le _, by simp⟩
  · exact le_ofL ⟨rfl, rfl, rfl, trivial⟩ rfl
  · rintro i ⟨hi, hp⟩
    refine f_seq ?_
    refine f_seq ?_
    refine f_region ?_
    refine scons (CStep.step (PStep.c (p_move (y := .val _) rfl (Sees.of rfl) rfl)) rfl rfl rfl rfl) ?_
    refine scons (CStep.step (PStep.c (p_move (y := .val _) rfl (Sees.of rfl) rfl)) rfl rfl rfl rfl) ?_
    refine scons (CStep.step (PStep.c (p_len rfl wCnf_isl33 (Sees.of rfl))) rfl rfl rfl rfl) ?_
    refine scons (CStep.step (PStep.c (p_lss rfl (Sees.of rfl) (Sees.of rfl))) rfl rfl rfl rfl) ?_
    refine snil ?_
    refine f_cond rfl ?_ ?_
    · intro hc1
      try simp only [bs] at hc1
      refine f_skip ?_
      refine f_seq ?_
      refine f_block ?_
      refine f_seq ?_
      refine f_region ?_
      refine scons (CStep.step (PStep.c (p_move (y := .val _) rfl (Sees.of rfl) rfl)) rfl rfl rfl rfl) ?_
      refine scons (CStep.step (PStep.c (p_move (y := .val _) rfl (Sees.of rfl) rfl)) rfl rfl rfl rfl) ?_
      refine scons (CStep.step (PStep.c ((by first | exact p_indexN rfl wCnf_isl33 wCnf_siz3 (Sees.of rfl) (Sees.of rfl) (by omega) | exact p_index rfl wCnf_isl33 wCnf_siz3 (Sees.of rfl) (Sees.of rfl) (by omega) (by omega)))) rfl rfl rfl rfl) ?_
      refine scons (CStep.step (PStep.c (p_load rfl wCnf_agg3 (Sees.of rfl) rfl)) rfl rfl rfl rfl) ?_
      refine scons (CStep.step (PStep.c (p_move (y := .val _) rfl (Sees.of rfl) rfl)) rfl rfl rfl rfl) ?_
      refine scons (CStep.step (PStep.c (p_eql rfl (Sees.of rfl) (Sees.of rfl))) rfl rfl rfl rfl) ?_
      refine snil ?_
      refine f_cond rfl ?_ ?_
      · intro hc2
        try simp only [bs] at hc2
        refine f_seq ?_
        refine f_region ?_
        refine scons (CStep.step (PStep.c (p_assign (y := .val _) rfl (Sees.of rfl) rfl)) rfl rfl rfl rfl) ?_
        refine snil ?_
        refine f_ret ?_
        refine ends_ret (res_eq (res1 rfl (res_tmp rfl (Sees.of rfl))) ?_)
        have : x ∈ l := by rw [← hc2]; exact Sp.getD_mem l i 0 (by omega)
        simp [this]
      · intro hc2
        try simp only [bs] at hc2
        refine f_skip ?_
        refine f_nil ?_
        show AWs _ _ _ _ _
        refine f_region ?_
        refine scons (CStep.step (PStep.c (p_move (y := .val _) rfl (Sees.of rfl) rfl)) rfl rfl rfl rfl) ?_
        refine scons (CStep.step (PStep.c (p_add rfl (Sees.of rfl) (Sees.of rfl) (by omega))) rfl rfl rfl rfl) ?_
        refine scons (CStep.step (PStep.c (p_assign (y := .val _) rfl (Sees.of rfl) rfl)) rfl rfl rfl rfl) ?_
        refine snil ?_
        refine f_back ⟨i + 1, ?_, ?_, le_ofL ⟨rfl, rfl, rfl, trivial⟩ rfl⟩
        · refine ⟨by omega, ?_⟩
          rw [Sp.take_getD l i 0 (by omega)]
          simp only [List.mem_append, List.mem_singleton, not_or]
          exact ⟨hp, fun h => hc2 h.symm⟩
        · omega
    · intro hc1
      try simp only [bs] at hc1
      refine f_exit ?_
      show AWs _ _ _ _ _
      refine f_seq ?_
      refine f_region ?_
      refine scons (CStep.step (PStep.c (p_assign (y := .val _) rfl (Sees.of rfl) rfl)) rfl rfl rfl rfl) ?_
      refine snil ?_
      refine f_ret ?_
      refine ends_ret (res_eq (res1 rfl (res_tmp rfl (Sees.of rfl))) ?_)
      rw [List.take_of_length_le (by omega)] at hp
      simp [hp]

theorem indexI_spec (l : List Int) (p : Int → Bool) (V : Int → Prop) (hV : ∀ z ∈ l, V z) :
    Spec Go.Proofs.Try.prog 151 [.val (ints l), .val (.fn (α := { z : Int // V z }) (fun z => .cons (di z.1) .nil) (fun z => .bool (p z.1)))] (di (Sp.idx p l)) := by
  refine spec_of' Go.Proofs.Try.func151 rfl Go.Proofs.Try.ntmps151 rfl ?_
  refine f_seq ?_
  refine f_wf (.tmp 0) rfl (fun hwf => ?_) (by simp)
  have hlen : l.length ≤ 140737488355328 := hwf.1
  clear hwf
  refine f_region ?_
  refine scons (CStep.step (PStep.c (p_assign (y := .val _) rfl (Sees.of rfl) rfl)) rfl rfl rfl rfl) ?_
  refine snil ?_
  refine f_seq ?_
  refine f_seq ?_
  refine f_region ?_
  refine scons (CStep.step (PStep.c (p_move (y := .val _) rfl (Sees.of rfl) rfl)) rfl rfl rfl rfl) ?_
  refine scons (CStep.step (PStep.c (p_len rfl wCnf_isl33 (Sees.of rfl))) rfl rfl rfl rfl) ?_
  refine scons (CStep.step (PStep.c (p_move (y := .val _) rfl (Sees.of rfl) rfl)) rfl rfl rfl rfl) ?_
  refine snil ?_
  refine f_block ?_
  refine f_loop (α := Nat) (fun i => i ≤ l.length ∧ ∀ y ∈ l.take i, p y = false) (fun i => [(8, iv i), (0, .val (ints l)), (1, .val (.fn (α := { z : Int // V z }) (fun z => .cons (di z.1) .nil) (fun z => .bool (p z.1)))), (7, iv l.length)]) (fun i => l.length - i) 0 ?_ ?_ ?_
  · exact ⟨Nat.zero_le _, by simp⟩
  · exact le_ofL ⟨rfl, rfl, rfl, rfl, trivial⟩ rfl
  · rintro i ⟨hi, hp⟩
    refine f_seq ?_
    refine f_region ?_
    refine scons (CStep.step (PStep.c (p_lss rfl (Sees.of rfl) (Sees.of rfl))) rfl rfl rfl rfl) ?_
    refine snil ?_
    refine f_seq ?_
    refine f_cond rfl ?_ ?_
    · intro hc1
      try simp only [bs] at hc1
      refine f_skip ?_
      refine f_seq ?_
      refine f_block ?_
      refine f_seq ?_
      refine f_region ?_
      refine scons (CStep.step (PStep.c (p_move (y := .val _) rfl (Sees.of rfl) rfl)) rfl rfl rfl rfl) ?_
      refine scons (CStep.step (PStep.c (p_assign (y := .val _) rfl (Sees.of rfl) rfl)) rfl rfl rfl rfl) ?_
      refine snil ?_
      refine f_seq ?_
      refine f_region ?_
      refine scons (CStep.step (PStep.c (p_move (y := .val _) rfl (Sees.of rfl) rfl)) rfl rfl rfl rfl) ?_
      refine scons (CStep.step (PStep.c (p_move (y := .val _) rfl (Sees.of rfl) rfl)) rfl rfl rfl rfl) ?_
      refine scons (CStep.step (PStep.c (p_move (y := .val _) rfl (Sees.of rfl) rfl)) rfl rfl rfl rfl) ?_
      refine scons (CStep.step (PStep.c ((by first | exact p_indexN rfl wCnf_isl33 wCnf_siz3 (Sees.of rfl) (Sees.of rfl) (by omega) | exact p_index rfl wCnf_isl33 wCnf_siz3 (Sees.of rfl) (Sees.of rfl) (by omega) (by omega)))) rfl rfl rfl rfl) ?_
      refine scons (CStep.step (PStep.c (p_load rfl wCnf_agg3 (Sees.of rfl) rfl)) rfl rfl rfl rfl) ?_
      refine scons (CStep.step (c_callV (q := false) (⟨l.getD i 0, hV _ (Sp.getD_mem l i 0 (by omega))⟩) rfl (Sees.of rfl) rfl (sa_cons (sh_of (Sees.of rfl) rfl) (sa_nil)) rfl) rfl rfl rfl rfl) ?_
      refine snil ?_
      refine f_cond rfl ?_ ?_
      · intro hc2
        try simp only [bs] at hc2
        refine f_seq ?_
        refine f_region ?_
        refine scons (CStep.step (PStep.c (p_move (y := .val _) rfl (Sees.of rfl) rfl)) rfl rfl rfl rfl) ?_
        refine scons (CStep.step (PStep.c (p_assign (y := .val _) rfl (Sees.of rfl) rfl)) rfl rfl rfl rfl) ?_
        refine snil ?_
        refine f_ret ?_
        refine ends_ret (res_eq (res1 rfl (res_tmp rfl (Sees.of rfl))) ?_)
        rw [Sp.idx_at (by omega) hp hc2]
      · intro hc2
        try simp only [bs] at hc2
        refine f_skip ?_
        refine f_nil ?_
        show AWs _ _ _ _ _
        refine f_region ?_
        refine scons (CStep.step (PStep.c (p_add rfl (Sees.of rfl) (Sees.of rfl) (by omega))) rfl rfl rfl rfl) ?_
        refine scons (CStep.step (PStep.c (p_move (y := .val _) rfl (Sees.of rfl) rfl)) rfl rfl rfl rfl) ?_
        refine snil ?_
        refine f_back ⟨i + 1, ?_, ?_, le_ofL ⟨rfl, rfl, rfl, rfl, trivial⟩ rfl⟩
        · refine ⟨by omega, ?_⟩
          rw [Sp.take_getD l i 0 (by omega)]
          intro y hy
          rcases List.mem_append.1 hy with h | h
          · exact hp y h
          · rw [List.mem_singleton.1 h]; exact hc2
        · omega
    · intro hc1
      try simp only [bs] at hc1
      refine f_exit ?_
      show AWs _ _ _ _ _
      refine f_seq ?_
      refine f_region ?_
      refine scons (CStep.step (PStep.c (p_assign (y := .val _) rfl (Sees.of rfl) rfl)) rfl rfl rfl rfl) ?_
      refine snil ?_
      refine f_ret ?_
      refine ends_ret (res_eq (res1 rfl (res_tmp rfl (Sees.of rfl))) ?_)
      rw [List.take_of_length_le (by omega)] at hp
      rw [Sp.idx_none hp]

theorem containsI_spec (l : List Int) (p : Int → Bool) (V : Int → Prop) (hV : ∀ z ∈ l, V z) :
    Spec Go.Proofs.Try.prog 153 [.val (ints l), .val (.fn (α := { z : Int // V z }) (fun z => .cons (di z.1) .nil) (fun z => .bool (p z.1)))] (D.bool (l.any p)) := by
  refine spec_of' Go.Proofs.Try.func153 rfl Go.Proofs.Try.ntmps153 rfl ?_
  refine f_seq ?_
  refine f_region ?_
  refine scons (CStep.step (PStep.c (p_assign (y := .val _) rfl (Sees.of rfl) rfl)) rfl rfl rfl rfl) ?_
  refine snil ?_
  refine f_seq ?_
  refine f_region ?_
  refine scons (CStep.step (PStep.c (p_move (y := .val _) rfl (Sees.of rfl) rfl)) rfl rfl rfl rfl) ?_
  refine scons (CStep.step (PStep.c (p_move (y := .val _) rfl (Sees.of rfl) rfl)) rfl rfl rfl rfl) ?_
  refine scons (CStep.step (c_call rfl wCnf_isf151 ⟨_, _, rfl, (Sees.of rfl), rfl, ⟨_, _, rfl, (Sees.of rfl), rfl, rfl⟩⟩ (indexI_spec l p V hV)) rfl rfl rfl rfl) ?_
  refine scons (CStep.step (PStep.c (p_geq rfl (Sees.of rfl) (Sees.of rfl))) rfl rfl rfl rfl) ?_
  refine scons (CStep.step (PStep.c (p_assign (y := .val _) rfl (Sees.of rfl) rfl)) rfl rfl rfl rfl) ?_
  refine snil ?_
  refine f_ret ?_
  refine ends_ret (res_eq (res1 rfl (res_tmp rfl (Sees.of rfl))) ?_)
  rw [Sp.idx_any]

theorem indexII_spec (l : List (List Int)) (p : (List Int) → Bool) (V : (List Int) → Prop) (hV : ∀ z ∈ l, V z) :
    Spec Go.Proofs.Try.prog 121 [.val (intss l), .val (.fn (α := { z : (List Int) // V z }) (fun z => .cons (ints z.1) .nil) (fun z => .bool (p z.1)))] (di (Sp.idx p l)) := by
  refine spec_of' Go.Proofs.Try.func121 rfl Go.Proofs.Try.ntmps121 rfl ?_
  refine f_seq ?_
  refine f_wf (.tmp 0) rfl (fun hwf => ?_) (by simp)
  have hlen : l.length ≤ 140737488355328 := hwf.1
  clear hwf
  refine f_region ?_
  refine scons (CStep.step (PStep.c (p_assign (y := .val _) rfl (Sees.of rfl) rfl)) rfl rfl rfl rfl) ?_
  refine snil ?_
  refine f_seq ?_
  refine f_seq ?_
  refine f_region ?_
  refine scons (CStep.step (PStep.c (p_move (y := .val _) rfl (Sees.of rfl) rfl)) rfl rfl rfl rfl) ?_
  refine scons (CStep.step (PStep.c (p_len rfl wCnf_isl37 (Sees.of rfl))) rfl rfl rfl rfl) ?_
  refine scons (CStep.step (PStep.c (p_move (y := .val _) rfl (Sees.of rfl) rfl)) rfl rfl rfl rfl) ?_
  refine snil ?_
  refine f_block ?_
  refine f_loop (α := Nat) (fun i => i ≤ l.length ∧ ∀ y ∈ l.take i, p y = false) (fun i => [(8, iv i), (0, .val (intss l)), (1, .val (.fn (α := { z : (List Int) // V z }) (fun z => .cons (ints z.1) .nil) (fun z => .bool (p z.1)))), (7, iv l.length)]) (fun i => l.length - i) 0 ?_ ?_ ?_
  · exact ⟨Nat.zero_le _, by simp⟩
  · exact le_ofL ⟨rfl, rfl, rfl, rfl, trivial⟩ rfl
  · rintro i ⟨hi, hp⟩
    refine f_seq ?_
    refine f_region ?_
    refine scons (CStep.step (PStep.c (p_lss rfl (Sees.of rfl) (Sees.of rfl))) rfl rfl rfl rfl) ?_
    refine snil ?_
    refine f_seq ?_
    refine f_cond rfl ?_ ?_
    · intro hc1
      try simp only [bs] at hc1
      refine f_skip ?_
      refine f_seq ?_
      refine f_block ?_
      refine f_seq ?_
      refine f_region ?_
      refine scons (CStep.step (PStep.c (p_move (y := .val _) rfl (Sees.of rfl) rfl)) rfl rfl rfl rfl) ?_
      refine scons (CStep.step (PStep.c (p_assign (y := .val _) rfl (Sees.of rfl) rfl)) rfl rfl rfl rfl) ?_
      refine snil ?_
      refine f_seq ?_
      refine f_region ?_
      refine scons (CStep.step (PStep.c (p_move (y := .val _) rfl (Sees.of rfl) rfl)) rfl rfl rfl rfl) ?_
      refine scons (CStep.step (PStep.c (p_move (y := .val _) rfl (Sees.of rfl) rfl)) rfl rfl rfl rfl) ?_
      refine scons (CStep.step (PStep.c (p_move (y := .val _) rfl (Sees.of rfl) rfl)) rfl rfl rfl rfl) ?_
      refine scons (CStep.step (PStep.c ((by first | exact p_indexN rfl wCnf_isl37 wCnf_siz33 (Sees.of rfl) (Sees.of rfl) (by omega) | exact p_index rfl wCnf_isl37 wCnf_siz33 (Sees.of rfl) (Sees.of rfl) (by omega) (by omega)))) rfl rfl rfl rfl) ?_
      refine scons (CStep.step (PStep.c (p_load rfl wCnf_agg33 (Sees.of rfl) rfl)) rfl rfl rfl rfl) ?_
      refine scons (CStep.step (c_callV (q := false) (⟨l.getD i [], hV _ (Sp.getD_mem l i [] (by omega))⟩) rfl (Sees.of rfl) rfl (sa_cons (sh_of (Sees.of rfl) rfl) (sa_nil)) rfl) rfl rfl rfl rfl) ?_
      refine snil ?_
      refine f_cond rfl ?_ ?_
      · intro hc2
        try simp only [bs] at hc2
        refine f_seq ?_
        refine f_region ?_
        refine scons (CStep.step (PStep.c (p_move (y := .val _) rfl (Sees.of rfl) rfl)) rfl rfl rfl rfl) ?_
        refine scons (CStep.step (PStep.c (p_assign (y := .val _) rfl (Sees.of rfl) rfl)) rfl rfl rfl rfl) ?_
        refine snil ?_
        refine f_ret ?_
        refine ends_ret (res_eq (res1 rfl (res_tmp rfl (Sees.of rfl))) ?_)
        rw [Sp.idx_at (by omega) hp hc2]
      · intro hc2
        try simp only [bs] at hc2
        refine f_skip ?_
        refine f_nil ?_
        show AWs _ _ _ _ _
        refine f_region ?_
        refine scons (CStep.step (PStep.c (p_add rfl (Sees.of rfl) (Sees.of rfl) (by omega))) rfl rfl rfl rfl) ?_
        refine scons (CStep.step (PStep.c (p_move (y := .val _) rfl (Sees.of rfl) rfl)) rfl rfl rfl rfl) ?_
        refine snil ?_
        refine f_back ⟨i + 1, ?_, ?_, le_ofL ⟨rfl, rfl, rfl, rfl, trivial⟩ rfl⟩
        · refine ⟨by omega, ?_⟩
          rw [Sp.take_getD l i [] (by omega)]
          intro y hy
          rcases List.mem_append.1 hy with h | h
          · exact hp y h
          · rw [List.mem_singleton.1 h]; exact hc2
        · omega
    · intro hc1
      try simp only [bs] at hc1
      refine f_exit ?_
      show AWs _ _ _ _ _
      refine f_seq ?_
      refine f_region ?_
      refine scons (CStep.step (PStep.c (p_assign (y := .val _) rfl (Sees.of rfl) rfl)) rfl rfl rfl rfl) ?_
      refine snil ?_
      refine f_ret ?_
      refine ends_ret (res_eq (res1 rfl (res_tmp rfl (Sees.of rfl))) ?_)
      rw [List.take_of_length_le (by omega)] at hp
      rw [Sp.idx_none hp]

theorem containsII_spec (l : List (List Int)) (p : (List Int) → Bool) (V : (List Int) → Prop) (hV : ∀ z ∈ l, V z) :
    Spec Go.Proofs.Try.prog 125 [.val (intss l), .val (.fn (α := { z : (List Int) // V z }) (fun z => .cons (ints z.1) .nil) (fun z => .bool (p z.1)))] (D.bool (l.any p)) := by
  refine spec_of' Go.Proofs.Try.func125 rfl Go.Proofs.Try.ntmps125 rfl ?_
  refine f_seq ?_
  refine f_region ?_
  refine scons (CStep.step (PStep.c (p_assign (y := .val _) rfl (Sees.of rfl) rfl)) rfl rfl rfl rfl) ?_
  refine snil ?_
  refine f_seq ?_
  refine f_region ?_
  refine scons (CStep.step (PStep.c (p_move (y := .val _) rfl (Sees.of rfl) rfl)) rfl rfl rfl rfl) ?_
  refine scons (CStep.step (PStep.c (p_move (y := .val _) rfl (Sees.of rfl) rfl)) rfl rfl rfl rfl) ?_
  refine scons (CStep.step (c_call rfl wCnf_isf121 ⟨_, _, rfl, (Sees.of rfl), rfl, ⟨_, _, rfl, (Sees.of rfl), rfl, rfl⟩⟩ (indexII_spec l p V hV)) rfl rfl rfl rfl) ?_
  refine scons (CStep.step (PStep.c (p_geq rfl (Sees.of rfl) (Sees.of rfl))) rfl rfl rfl rfl) ?_
  refine scons (CStep.step (PStep.c (p_assign (y := .val _) rfl (Sees.of rfl) rfl)) rfl rfl rfl rfl) ?_
  refine snil ?_
  refine f_ret ?_
  refine ends_ret (res_eq (res1 rfl (res_tmp rfl (Sees.of rfl))) ?_)
  rw [Sp.idx_any]

theorem var_spec (x : Int) (hx : -9223372036854775808 < x ∧ x ≤ 9223372036854775807) :
    Spec Go.Proofs.Try.prog 71 [iv x] (di (max x (-x))) := by
  refine spec_of' Go.Proofs.Try.func71 rfl Go.Proofs.Try.ntmps71 rfl ?_
  refine f_seq ?_
  refine f_region ?_
  refine scons (CStep.step (PStep.c (p_assign (y := .val _) rfl (Sees.of rfl) rfl)) rfl rfl rfl rfl) ?_
  refine snil ?_
  refine f_seq ?_
  refine f_region ?_
  refine scons (CStep.step (PStep.c (p_move (y := .val _) rfl (Sees.of rfl) rfl)) rfl rfl rfl rfl) ?_
  refine scons (CStep.step (PStep.c (p_move (y := .val _) rfl (Sees.of rfl) rfl)) rfl rfl rfl rfl) ?_
  refine scons (CStep.step (PStep.c (p_neg rfl (Sees.of rfl) (by omega))) rfl rfl rfl rfl) ?_
  refine scons (CStep.step (PStep.c (p_max rfl (Sees.of rfl) (Sees.of rfl))) rfl rfl rfl rfl) ?_
  refine scons (CStep.step (PStep.c (p_assign (y := .val _) rfl (Sees.of rfl) rfl)) rfl rfl rfl rfl) ?_
  refine snil ?_
  refine f_ret ?_
  refine ends_ret (res_eq (res1 rfl (res_tmp rfl (Sees.of rfl))) ?_)
  rfl

theorem bad1_spec (x : Int) (hx : -9223372036854775808 < x ∧ x ≤ 9223372036854775807) (y : Int) (hy : -9223372036854775808 < y ∧ y ≤ 9223372036854775807) :
    Spec Go.Proofs.Try.prog 154 [iv y, .ptr (di x)] (D.bool (decide (max y (-y) = max x (-x)))) := by
  refine spec_of' Go.Proofs.Try.func154 rfl Go.Proofs.Try.ntmps154 rfl ?_
  refine f_seq ?_
  refine f_region ?_
  refine scons (CStep.step (PStep.c (p_assign (y := .val _) rfl (Sees.of rfl) rfl)) rfl rfl rfl rfl) ?_
  refine snil ?_
  refine f_seq ?_
  refine f_draw wCnf_mix (by kernel_rfl) ?_
  refine dcons (CStep.step (PStep.c (p_move (y := .val _) rfl (Sees.of rfl) rfl)) rfl rfl rfl rfl) ?_
  refine dcons (CStep.step (c_call rfl wCnf_isf71 ⟨_, _, rfl, (Sees.of rfl), rfl, rfl⟩ (var_spec y hy)) rfl rfl rfl rfl) ?_
  refine dcons (CStep.step (PStep.c (p_load rfl wCnf_agg3 (Sees.of rfl) rfl)) rfl rfl rfl rfl) ?_
  refine dcons (CStep.step (c_call rfl wCnf_isf71 ⟨_, _, rfl, (Sees.of rfl), rfl, rfl⟩ (var_spec x hx)) rfl rfl rfl rfl) ?_
  refine dcons (CStep.step (PStep.c (p_eql rfl (Sees.of rfl) (Sees.of rfl))) rfl rfl rfl rfl) ?_
  refine dcons (CStep.step (PStep.c (p_assign (y := .val _) rfl (Sees.of rfl) rfl)) rfl rfl rfl rfl) ?_
  refine dnil (by kernel_rfl) ?_
  refine f_ret ?_
  refine ends_ret (res_eq (res1 rfl (res_tmp rfl (Sees.of rfl))) ?_)
  rfl

theorem bad_spec (l : List Int) (n : Int) (hn : 0 ≤ n ∧ n ≤ 4000000000000000000) :
    Spec Go.Proofs.Try.prog 116 [.val (ints l), iv n] (two (di (Sp.wrong n l).2) (di (Sp.wrong n l).1)) := by
  refine spec_of' Go.Proofs.Try.func116 rfl Go.Proofs.Try.ntmps116 rfl ?_
  refine f_seq ?_
  refine f_wf (.tmp 0) rfl (fun hwf => ?_) (by simp)
  have hlen : l.length ≤ 140737488355328 := hwf.1
  clear hwf
  refine f_region ?_
  refine scons (CStep.step (PStep.c (p_assign (y := .val _) rfl (Sees.of rfl) rfl)) rfl rfl rfl rfl) ?_
  refine scons (CStep.step (PStep.c (p_assign (y := .val _) rfl (Sees.of rfl) rfl)) rfl rfl rfl rfl) ?_
  refine snil ?_
  refine f_seq ?_
  refine f_seq ?_
  refine f_region ?_
  refine scons (CStep.step (PStep.c (p_move (y := .val _) rfl (Sees.of rfl) rfl)) rfl rfl rfl rfl) ?_
  refine scons (CStep.step (PStep.c (p_len rfl wCnf_isl33 (Sees.of rfl))) rfl rfl rfl rfl) ?_
  refine scons (CStep.step (PStep.c (p_move (y := .val _) rfl (Sees.of rfl) rfl)) rfl rfl rfl rfl) ?_
  refine snil ?_
  refine f_block ?_
  refine f_loop (α := Nat) (fun i => i ≤ l.length ∧ (∀ y ∈ l.take i, -n ≤ y ∧ y ≤ n) ∧ Sp.wrong n l = Sp.wrongFrom n l i) (fun i => [(10, iv i), (0, .val (ints l)), (1, iv n), (8, .val (ints l)), (9, iv l.length)]) (fun i => l.length - i) 0 ?_ ?_ ?_
  · exact ⟨Nat.zero_le _, by simp, rfl⟩
  · exact le_ofL ⟨rfl, rfl, rfl, rfl, rfl, trivial⟩ rfl
  · rintro i ⟨hi, hp, he⟩
    refine f_seq ?_
    refine f_region ?_
    refine scons (CStep.step (PStep.c (p_lss rfl (Sees.of rfl) (Sees.of rfl))) rfl rfl rfl rfl) ?_
    refine snil ?_
    refine f_seq ?_
    refine f_cond rfl ?_ ?_
    · intro hc1
      try simp only [bs] at hc1
      refine f_skip ?_
      refine f_seq ?_
      refine f_block ?_
      refine f_seq ?_
      refine f_region ?_
      refine scons (CStep.step (PStep.c (p_move (y := .val _) rfl (Sees.of rfl) rfl)) rfl rfl rfl rfl) ?_
      refine scons (CStep.step (PStep.c ((by first | exact p_indexN rfl wCnf_isl33 wCnf_siz3 (Sees.of rfl) (Sees.of rfl) (by omega) | exact p_index rfl wCnf_isl33 wCnf_siz3 (Sees.of rfl) (Sees.of rfl) (by omega) (by omega)))) rfl rfl rfl rfl) ?_
      refine scons (CStep.step (PStep.c (p_load rfl wCnf_agg3 (Sees.of rfl) rfl)) rfl rfl rfl rfl) ?_
      refine scons (r_alloc (ob := 10007) rfl wCnf_zer3 rfl rfl rfl rfl rfl rfl) ?_
      refine scons (CStep.step (PStep.c (p_assign (y := .val _) rfl (Sees.of rfl) rfl)) rfl rfl rfl rfl) ?_
      refine scons (r_store rfl wCnf_siz3 rfl rfl rfl (Sees.of rfl) rfl rfl (Sees.of rfl) (one_val rfl)) ?_
      refine snil ?_
      refine f_block ?_
      refine f_seq ?_
      refine f_region ?_
      refine scons (CStep.step (PStep.c (p_loadB (y := .val _) rfl wCnf_agg3 (Sees.of rfl) rfl rfl rfl rfl)) rfl rfl rfl rfl) ?_
      refine scons (CStep.step (PStep.c (p_eql rfl (Sees.of rfl) (Sees.of rfl))) rfl rfl rfl rfl) ?_
      refine scons (CStep.step (PStep.c (p_move (y := .val _) rfl (Sees.of rfl) rfl)) rfl rfl rfl rfl) ?_
      refine scons (CStep.guard rfl rfl rfl (fun hg0 => PStep.c (p_loadB (y := .val _) rfl wCnf_agg3 (Sees.of rfl) rfl rfl rfl rfl)) rfl rfl rfl rfl rfl) ?_
      refine scons (CStep.guard rfl rfl rfl (fun hg0 => PStep.c (p_move (y := .val _) rfl (Sees.of rfl) rfl)) rfl rfl rfl rfl rfl) ?_
      refine scons (CStep.guard rfl rfl rfl (fun hg0 => by have hp0 := hg0; (try simp only [bs] at hp0); exact PStep.c (p_neg rfl (Sees.gv' rfl hg0) (by omega))) rfl rfl rfl rfl rfl) ?_
      refine scons (CStep.guard rfl rfl rfl (fun hg0 => PStep.c (p_lss rfl (Sees.gv' rfl hg0) (Sees.gv' rfl hg0))) rfl rfl rfl rfl rfl) ?_
      refine scons (CStep.step (PStep.c (p_or rfl (Sees.of rfl) (Sees.of rfl) (fun h => Sees.gv' rfl (beq_of_eq h)))) rfl rfl rfl rfl) ?_
      refine scons (CStep.step (PStep.c (p_move (y := .val _) rfl (Sees.of rfl) rfl)) rfl rfl rfl rfl) ?_
      refine scons (CStep.guard rfl rfl rfl (fun hg0 => PStep.c (p_loadB (y := .val _) rfl wCnf_agg3 (Sees.of rfl) rfl rfl rfl rfl)) rfl rfl rfl rfl rfl) ?_
      refine scons (CStep.guard rfl rfl rfl (fun hg0 => PStep.c (p_move (y := .val _) rfl (Sees.of rfl) rfl)) rfl rfl rfl rfl rfl) ?_
      refine scons (CStep.guard rfl rfl rfl (fun hg0 => PStep.c (p_gtr rfl (Sees.gv' rfl hg0) (Sees.gv' rfl hg0))) rfl rfl rfl rfl rfl) ?_
      refine scons (CStep.step (PStep.c (p_or rfl (Sees.of rfl) (Sees.of rfl) (fun h => Sees.gv' rfl (beq_of_eq h)))) rfl rfl rfl rfl) ?_
      refine scons (CStep.step (PStep.c (p_assign (y := .val _) rfl (Sees.of rfl) rfl)) rfl rfl rfl rfl) ?_
      refine snil ?_
      refine f_cond rfl ?_ ?_
      · intro hc2
        try simp only [bs] at hc2
        refine f_seq ?_
        refine f_region ?_
        refine scons (CStep.step (PStep.c (p_move (y := .val _) rfl (Sees.of rfl) rfl)) rfl rfl rfl rfl) ?_
        refine scons (CStep.step (PStep.c (p_assign (y := .val _) rfl (Sees.of rfl) rfl)) rfl rfl rfl rfl) ?_
        refine scons (CStep.step (PStep.c (p_assign (y := .val _) rfl (Sees.of rfl) rfl)) rfl rfl rfl rfl) ?_
        refine snil ?_
        refine f_ret ?_
        refine ends_ret (res_eq (res2 rfl (res_tmp rfl (Sees.of rfl)) (res_tmp rfl (Sees.of rfl))) ?_)
        rw [he, Sp.wrongFrom, if_pos (by omega), if_pos (by omega)]
      · intro hc2
        try simp only [bs] at hc2
        refine f_seq ?_
        refine f_region ?_
        refine scons (CStep.step (PStep.c (p_move (y := .val _) rfl (Sees.of rfl) rfl)) rfl rfl rfl rfl) ?_
        refine scons (CStep.step (PStep.c (p_move (y := .val _) rfl (Sees.of rfl) rfl)) rfl rfl rfl rfl) ?_
        refine scons (CStep.step (PStep.c (p_slice  rfl wCnf_isl33 wCnf_siz3 (Sees.of rfl) rfl (Sees.of rfl) (by omega) (by omega))) rfl rfl rfl rfl) ?_
        refine scons (CStep.step (PStep.c (p_makeFunc (l := [.tmp 7]) rfl)) rfl rfl rfl rfl) ?_
        refine scons (CStep.step (c_callS (q := true) rfl wCnf_isf153 (containsI_spec _ (fun y => decide (max y (-y) = max (l.getD i 0) (-l.getD i 0))) (fun y => -9223372036854775808 < y ∧ y ≤ 9223372036854775807) (fun y hy => by have := hp y (by simpa using hy); omega)) (sa_cons (sh_of (Sees.of rfl) rfl) (sa_cons (sh_clo (Sees.of rfl) wCnf_isf154 (sl_cons (sh_ref1 Sees.same rfl rfl (sh_of Sees.same rfl)) (sl_nil)) (fun _ => rfl) (fun _ => rfl) (fun y => bad1_spec (l.getD i 0) (by omega) y.1 y.2)) (sa_nil))) rfl) rfl rfl rfl rfl) ?_
        refine scons (CStep.step (PStep.c (p_assign (y := .val _) rfl (Sees.of rfl) rfl)) rfl rfl rfl rfl) ?_
        refine snil ?_
        refine f_cond rfl ?_ ?_
        · intro hc3
          try simp only [bs] at hc3
          refine f_seq ?_
          refine f_region ?_
          refine scons (CStep.step (PStep.c (p_move (y := .val _) rfl (Sees.of rfl) rfl)) rfl rfl rfl rfl) ?_
          refine scons (CStep.step (PStep.c (p_assign (y := .val _) rfl (Sees.of rfl) rfl)) rfl rfl rfl rfl) ?_
          refine scons (CStep.step (PStep.c (p_assign (y := .val _) rfl (Sees.of rfl) rfl)) rfl rfl rfl rfl) ?_
          refine snil ?_
          refine f_ret ?_
          refine ends_ret (res_eq (res2 rfl (res_tmp rfl (Sees.of rfl)) (res_tmp rfl (Sees.of rfl))) ?_)
          have hd : Sp.dup l i = true := hc3
          rw [he, Sp.wrongFrom, if_pos (by omega), if_neg (by omega), if_pos hd]
        · intro hc3
          try simp only [bs] at hc3
          refine f_skip ?_
          refine f_nil ?_
          show AWs _ _ _ _ _
          refine f_nil ?_
          show AWs _ _ _ _ _
          refine f_region ?_
          refine scons (CStep.step (PStep.c (p_add rfl (Sees.of rfl) (Sees.of rfl) (by omega))) rfl rfl rfl rfl) ?_
          refine scons (CStep.step (PStep.c (p_move (y := .val _) rfl (Sees.of rfl) rfl)) rfl rfl rfl rfl) ?_
          refine snil ?_
          refine f_back ⟨i + 1, ?_, ?_, le_ofL ⟨rfl, rfl, rfl, rfl, rfl, trivial⟩ rfl⟩
          · have hd : Sp.dup l i = false := hc3
            refine ⟨by omega, ?_, by rw [he, Sp.wrongFrom, if_pos (by omega), if_neg (by omega), if_neg (by rw [hd]; decide)]⟩
            rw [Sp.take_getD l i 0 (by omega)]
            intro y hy
            rcases List.mem_append.1 hy with h | h
            · exact hp y h
            · rw [List.mem_singleton.1 h]; omega
          · omega
    · intro hc1
      try simp only [bs] at hc1
      refine f_exit ?_
      show AWs _ _ _ _ _
      refine f_seq ?_
      refine f_region ?_
      refine scons (CStep.step (PStep.c (p_assign (y := .val _) rfl (Sees.of rfl) rfl)) rfl rfl rfl rfl) ?_
      refine scons (CStep.step (PStep.c (p_assign (y := .val _) rfl (Sees.of rfl) rfl)) rfl rfl rfl rfl) ?_
      refine snil ?_
      refine f_ret ?_
      refine ends_ret (res_eq (res2 rfl (res_tmp rfl (Sees.of rfl)) (res_tmp rfl (Sees.of rfl))) ?_)
      rw [he, Sp.wrongFrom, if_neg (by omega)]
      all_goals rfl

theorem wrong_spec (l : List Int) (n : Int) (hn : 0 ≤ n ∧ n ≤ 4000000000000000000) :
    Spec Go.Proofs.Try.prog 102 [iv n, .val (ints l)] (two (di (Sp.wrong n l).1) (di (Sp.wrong n l).2)) := by
  refine spec_of' Go.Proofs.Try.func102 rfl Go.Proofs.Try.ntmps102 rfl ?_
  refine f_seq ?_
  refine f_wf (.tmp 1) rfl (fun hwf => ?_) (by simp)
  have hlen : l.length ≤ 140737488355328 := hwf.1
  clear hwf
  refine f_region ?_
  refine scons (CStep.step (PStep.c (p_assign (y := .val _) rfl (Sees.of rfl) rfl)) rfl rfl rfl rfl) ?_
  refine scons (CStep.step (PStep.c (p_assign (y := .val _) rfl (Sees.of rfl) rfl)) rfl rfl rfl rfl) ?_
  refine snil ?_
  refine f_seq ?_
  refine f_seq ?_
  refine f_region ?_
  refine scons (CStep.step (PStep.c (p_assign (y := .val _) rfl (Sees.of rfl) rfl)) rfl rfl rfl rfl) ?_
  refine snil ?_
  refine f_block ?_
  refine f_loop (α := Nat) (fun i => i ≤ l.length ∧ Sp.wrong n l = Sp.wrongFrom n l i) (fun i => [(6, iv i), (0, iv n), (1, .val (ints l))]) (fun i => l.length - i) 0 ?_ ?_ ?_
  · exact ⟨Nat.zero_le _, rfl⟩
  · exact le_ofL ⟨rfl, rfl, rfl, trivial⟩ rfl
  · rintro i ⟨hi, he⟩
    refine f_seq ?_
    refine f_seq ?_
    refine f_region ?_
    refine scons (CStep.step (PStep.c (p_move (y := .val _) rfl (Sees.of rfl) rfl)) rfl rfl rfl rfl) ?_
    refine scons (CStep.step (PStep.c (p_move (y := .val _) rfl (Sees.of rfl) rfl)) rfl rfl rfl rfl) ?_
    refine scons (CStep.step (PStep.c (p_len rfl wCnf_isl33 (Sees.of rfl))) rfl rfl rfl rfl) ?_
    refine scons (CStep.step (PStep.c (p_lss rfl (Sees.of rfl) (Sees.of rfl))) rfl rfl rfl rfl) ?_
    refine snil ?_
    refine f_cond rfl ?_ ?_
    · intro hc1
      try simp only [bs] at hc1
      refine f_skip ?_
      refine f_seq ?_
      refine f_block ?_
      refine f_seq ?_
      refine f_seq ?_
      refine f_region ?_
      refine scons (CStep.step (PStep.c (p_move (y := .val _) rfl (Sees.of rfl) rfl)) rfl rfl rfl rfl) ?_
      refine scons (CStep.step (PStep.c (p_move (y := .val _) rfl (Sees.of rfl) rfl)) rfl rfl rfl rfl) ?_
      refine scons (CStep.step (PStep.c ((by first | exact p_indexN rfl wCnf_isl33 wCnf_siz3 (Sees.of rfl) (Sees.of rfl) (by omega) | exact p_index rfl wCnf_isl33 wCnf_siz3 (Sees.of rfl) (Sees.of rfl) (by omega) (by omega)))) rfl rfl rfl rfl) ?_
      refine scons (CStep.step (PStep.c (p_load rfl wCnf_agg3 (Sees.of rfl) rfl)) rfl rfl rfl rfl) ?_
      refine scons (CStep.step (PStep.c (p_eql rfl (Sees.of rfl) (Sees.of rfl))) rfl rfl rfl rfl) ?_
      refine scons (CStep.step (PStep.c (p_move (y := .val _) rfl (Sees.of rfl) rfl)) rfl rfl rfl rfl) ?_
      refine scons (CStep.guard rfl rfl rfl (fun hg0 => PStep.c (p_move (y := .val _) rfl (Sees.of rfl) rfl)) rfl rfl rfl rfl rfl) ?_
      refine scons (CStep.guard rfl rfl rfl (fun hg0 => PStep.c (p_move (y := .val _) rfl (Sees.of rfl) rfl)) rfl rfl rfl rfl rfl) ?_
      refine scons (CStep.guard rfl rfl rfl (fun hg0 => by have hp0 := hg0; (try simp only [bs] at hp0); exact PStep.c ((by first | exact p_indexN rfl wCnf_isl33 wCnf_siz3 (Sees.gv' rfl hg0) (Sees.gv' rfl hg0) (by omega) | exact p_index rfl wCnf_isl33 wCnf_siz3 (Sees.gv' rfl hg0) (Sees.gv' rfl hg0) (by omega) (by omega)))) rfl rfl rfl rfl rfl) ?_
      refine scons (CStep.guard rfl rfl rfl (fun hg0 => PStep.c (p_load rfl wCnf_agg3 (Sees.gv' rfl hg0) rfl)) rfl rfl rfl rfl rfl) ?_
      refine scons (CStep.guard rfl rfl rfl (fun hg0 => PStep.c (p_move (y := .val _) rfl (Sees.of rfl) rfl)) rfl rfl rfl rfl rfl) ?_
      refine scons (CStep.guard rfl rfl rfl (fun hg0 => PStep.c (p_gtr rfl (Sees.gv' rfl hg0) (Sees.gv' rfl hg0))) rfl rfl rfl rfl rfl) ?_
      refine scons (CStep.step (PStep.c (p_or rfl (Sees.of rfl) (Sees.of rfl) (fun h => Sees.gv' rfl (beq_of_eq h)))) rfl rfl rfl rfl) ?_
      refine scons (CStep.step (PStep.c (p_move (y := .val _) rfl (Sees.of rfl) rfl)) rfl rfl rfl rfl) ?_
      refine scons (CStep.guard rfl rfl rfl (fun hg0 => PStep.c (p_move (y := .val _) rfl (Sees.of rfl) rfl)) rfl rfl rfl rfl rfl) ?_
      refine scons (CStep.guard rfl rfl rfl (fun hg0 => PStep.c (p_move (y := .val _) rfl (Sees.of rfl) rfl)) rfl rfl rfl rfl rfl) ?_
      refine scons (CStep.guard rfl rfl rfl (fun hg0 => by have hp0 := hg0; (try simp only [bs] at hp0); exact PStep.c ((by first | exact p_indexN rfl wCnf_isl33 wCnf_siz3 (Sees.gv' rfl hg0) (Sees.gv' rfl hg0) (by omega) | exact p_index rfl wCnf_isl33 wCnf_siz3 (Sees.gv' rfl hg0) (Sees.gv' rfl hg0) (by omega) (by omega)))) rfl rfl rfl rfl rfl) ?_
      refine scons (CStep.guard rfl rfl rfl (fun hg0 => PStep.c (p_load rfl wCnf_agg3 (Sees.gv' rfl hg0) rfl)) rfl rfl rfl rfl rfl) ?_
      refine scons (CStep.guard rfl rfl rfl (fun hg0 => PStep.c (p_move (y := .val _) rfl (Sees.of rfl) rfl)) rfl rfl rfl rfl rfl) ?_
      refine scons (CStep.guard rfl rfl rfl (fun hg0 => by have hp0 := hg0; (try simp only [bs] at hp0); exact PStep.c (p_neg rfl (Sees.gv' rfl hg0) (by omega))) rfl rfl rfl rfl rfl) ?_
      refine scons (CStep.guard rfl rfl rfl (fun hg0 => PStep.c (p_lss rfl (Sees.gv' rfl hg0) (Sees.gv' rfl hg0))) rfl rfl rfl rfl rfl) ?_
      refine scons (CStep.step (PStep.c (p_or rfl (Sees.of rfl) (Sees.of rfl) (fun h => Sees.gv' rfl (beq_of_eq h)))) rfl rfl rfl rfl) ?_
      refine snil ?_
      refine f_cond rfl ?_ ?_
      · intro hc2
        try simp only [bs] at hc2
        refine f_seq ?_
        refine f_region ?_
        refine scons (CStep.step (PStep.c (p_move (y := .val _) rfl (Sees.of rfl) rfl)) rfl rfl rfl rfl) ?_
        refine scons (CStep.step (PStep.c (p_assign (y := .val _) rfl (Sees.of rfl) rfl)) rfl rfl rfl rfl) ?_
        refine scons (CStep.step (PStep.c (p_assign (y := .val _) rfl (Sees.of rfl) rfl)) rfl rfl rfl rfl) ?_
        refine snil ?_
        refine f_ret ?_
        refine ends_ret (res_eq (res2 rfl (res_tmp rfl (Sees.of rfl)) (res_tmp rfl (Sees.of rfl))) ?_)
        rw [he, Sp.wrongFrom, if_pos (by omega), if_pos (by omega)]
        all_goals rfl
      · intro hc2
        try simp only [bs] at hc2
        refine f_skip ?_
        refine f_seq ?_
        refine f_draw wCnf_mix (by kernel_rfl) ?_
        refine dcons (CStep.step (PStep.c (p_move (y := .val _) rfl (Sees.of rfl) rfl)) rfl rfl rfl rfl) ?_
        refine dcons (CStep.step (PStep.c (p_move (y := .val _) rfl (Sees.of rfl) rfl)) rfl rfl rfl rfl) ?_
        refine dcons (CStep.step (PStep.c (p_slice  rfl wCnf_isl33 wCnf_siz3 (Sees.of rfl) rfl (Sees.of rfl) (by omega) (by omega))) rfl rfl rfl rfl) ?_
        refine dcons (CStep.step (PStep.c (p_move (y := .val _) rfl (Sees.of rfl) rfl)) rfl rfl rfl rfl) ?_
        refine dcons (CStep.step (PStep.c (p_move (y := .val _) rfl (Sees.of rfl) rfl)) rfl rfl rfl rfl) ?_
        refine dcons (CStep.step (PStep.c ((by first | exact p_indexN rfl wCnf_isl33 wCnf_siz3 (Sees.of rfl) (Sees.of rfl) (by omega) | exact p_index rfl wCnf_isl33 wCnf_siz3 (Sees.of rfl) (Sees.of rfl) (by omega) (by omega)))) rfl rfl rfl rfl) ?_
        refine dcons (CStep.step (PStep.c (p_load rfl wCnf_agg3 (Sees.of rfl) rfl)) rfl rfl rfl rfl) ?_
        refine dcons (CStep.step (c_call rfl wCnf_isf78 ⟨_, _, rfl, (Sees.of rfl), rfl, ⟨_, _, rfl, (Sees.of rfl), rfl, rfl⟩⟩ (has_spec _ _)) rfl rfl rfl rfl) ?_
        refine dcons (CStep.step (PStep.c (p_move (y := .val _) rfl (Sees.of rfl) rfl)) rfl rfl rfl rfl) ?_
        refine dcons (CStep.guard rfl rfl rfl (fun hg0 => PStep.c (p_move (y := .val _) rfl (Sees.of rfl) rfl)) rfl rfl rfl rfl rfl) ?_
        refine dcons (CStep.guard rfl rfl rfl (fun hg0 => PStep.c (p_move (y := .val _) rfl (Sees.of rfl) rfl)) rfl rfl rfl rfl rfl) ?_
        refine dcons (CStep.guard rfl rfl rfl (fun hg0 => by have hp0 := hg0; (try simp only [bs] at hp0); exact PStep.c (p_slice  rfl wCnf_isl33 wCnf_siz3 (Sees.gv' rfl hg0) rfl (Sees.gv' rfl hg0) (by omega) (by omega))) rfl rfl rfl rfl rfl) ?_
        refine dcons (CStep.guard rfl rfl rfl (fun hg0 => PStep.c (p_move (y := .val _) rfl (Sees.of rfl) rfl)) rfl rfl rfl rfl rfl) ?_
        refine dcons (CStep.guard rfl rfl rfl (fun hg0 => PStep.c (p_move (y := .val _) rfl (Sees.of rfl) rfl)) rfl rfl rfl rfl rfl) ?_
        refine dcons (CStep.guard rfl rfl rfl (fun hg0 => by have hp0 := hg0; (try simp only [bs] at hp0); exact PStep.c ((by first | exact p_indexN rfl wCnf_isl33 wCnf_siz3 (Sees.gv' rfl hg0) (Sees.gv' rfl hg0) (by omega) | exact p_index rfl wCnf_isl33 wCnf_siz3 (Sees.gv' rfl hg0) (Sees.gv' rfl hg0) (by omega) (by omega)))) rfl rfl rfl rfl rfl) ?_
        refine dcons (CStep.guard rfl rfl rfl (fun hg0 => PStep.c (p_load rfl wCnf_agg3 (Sees.gv' rfl hg0) rfl)) rfl rfl rfl rfl rfl) ?_
        refine dcons (CStep.guard rfl rfl rfl (fun hg0 => by have hp0 := hg0; (try simp only [bs] at hp0); exact PStep.c (p_neg rfl (Sees.gv' rfl hg0) (by omega))) rfl rfl rfl rfl rfl) ?_
        refine dcons (CStep.guard rfl rfl rfl (fun hg0 => c_call rfl wCnf_isf78 ⟨_, _, rfl, (Sees.gv' rfl hg0), rfl, ⟨_, _, rfl, (Sees.gv' rfl hg0), rfl, rfl⟩⟩ (has_spec _ _)) rfl rfl rfl rfl rfl) ?_
        refine dcons (CStep.step (PStep.c (p_or rfl (Sees.of rfl) (Sees.of rfl) (fun h => Sees.gv' rfl (beq_of_eq h)))) rfl rfl rfl rfl) ?_
        refine dnil (by kernel_rfl) ?_
        refine f_cond rfl ?_ ?_
        · intro hc3
          try simp only [bs] at hc3
          refine f_seq ?_
          refine f_region ?_
          refine scons (CStep.step (PStep.c (p_move (y := .val _) rfl (Sees.of rfl) rfl)) rfl rfl rfl rfl) ?_
          refine scons (CStep.step (PStep.c (p_assign (y := .val _) rfl (Sees.of rfl) rfl)) rfl rfl rfl rfl) ?_
          refine scons (CStep.step (PStep.c (p_assign (y := .val _) rfl (Sees.of rfl) rfl)) rfl rfl rfl rfl) ?_
          refine snil ?_
          refine f_ret ?_
          refine ends_ret (res_eq (res2 rfl (res_tmp rfl (Sees.of rfl)) (res_tmp rfl (Sees.of rfl))) ?_)
          have hd : Sp.dup l i = true := by rw [Sp.dup_iff, Bool.or_eq_true, decide_eq_true_eq, decide_eq_true_eq]; exact hc3
          rw [he, Sp.wrongFrom, if_pos (by omega), if_neg (by omega), if_pos hd]
          all_goals rfl
        · intro hc3
          try simp only [bs] at hc3
          refine f_skip ?_
          refine f_nil ?_
          show AWs _ _ _ _ _
          refine f_region ?_
          refine scons (CStep.step (PStep.c (p_move (y := .val _) rfl (Sees.of rfl) rfl)) rfl rfl rfl rfl) ?_
          refine scons (CStep.step (PStep.c (p_add rfl (Sees.of rfl) (Sees.of rfl) (by omega))) rfl rfl rfl rfl) ?_
          refine scons (CStep.step (PStep.c (p_assign (y := .val _) rfl (Sees.of rfl) rfl)) rfl rfl rfl rfl) ?_
          refine snil ?_
          refine f_back ⟨i + 1, ?_, ?_, le_ofL ⟨rfl, rfl, rfl, trivial⟩ rfl⟩
          · refine ⟨by omega, ?_⟩
            have hd : Sp.dup l i = false := by rw [Sp.dup_iff, Bool.or_eq_false_iff, decide_eq_false_iff_not, decide_eq_false_iff_not]; exact hc3
            rw [he, Sp.wrongFrom, if_pos (by omega), if_neg (by omega), if_neg (by rw [hd]; decide)]
          · omega
    · intro hc1
      try simp only [bs] at hc1
      refine f_exit ?_
      show AWs _ _ _ _ _
      refine f_seq ?_
      refine f_region ?_
      refine scons (CStep.step (PStep.c (p_assign (y := .val _) rfl (Sees.of rfl) rfl)) rfl rfl rfl rfl) ?_
      refine scons (CStep.step (PStep.c (p_assign (y := .val _) rfl (Sees.of rfl) rfl)) rfl rfl rfl rfl) ?_
      refine snil ?_
      refine f_ret ?_
      refine ends_ret (res_eq (res2 rfl (res_tmp rfl (Sees.of rfl)) (res_tmp rfl (Sees.of rfl))) ?_)
      rw [he, Sp.wrongFrom, if_neg (by omega)]
      all_goals rfl

theorem check_spec (n : Int) (ls : List (List Int)) :
    Spec Go.Proofs.Try.prog 101 [.val (cnf n ls)] (fault (Sp.check n ls).1 (Sp.check n ls).2) := by
  refine spec_of' Go.Proofs.Try.func101 rfl Go.Proofs.Try.ntmps101 rfl ?_
  refine f_seq ?_
  refine f_wf (.tmp 0) rfl (fun hwf => ?_) (by simp)
  have hlen : ls.length ≤ 140737488355328 := hwf.2.1.1
  have hsub : ∀ i, i < ls.length → (ls.getD i []).length ≤ 140737488355328 := fun i hi => (hwf.2.1.2 _ (Sp.getD_mem ls i [] hi)).1
  clear hwf
  refine f_region ?_
  refine scons (r_box (ob := 10001) rfl (Sees.of rfl) rfl rfl rfl rfl rfl rfl) ?_
  refine scons (r_alloc (ob := 10002) rfl wCnf_zer26 rfl rfl rfl rfl rfl rfl) ?_
  refine snil ?_
  refine f_seq ?_
  refine f_seq ?_
  refine f_region ?_
  refine scons (CStep.step (PStep.c (p_fieldRef rfl wCnf_fld39_0 wCnf_siz3 rfl (Sees.of rfl) rfl)) rfl rfl rfl rfl) ?_
  refine scons (CStep.step (PStep.c (p_loadB (y := .val _) rfl wCnf_agg3 (Sees.of rfl) rfl rfl rfl rfl)) rfl rfl rfl rfl) ?_
  refine scons (CStep.step (PStep.c (p_lss rfl (Sees.of rfl) (Sees.of rfl))) rfl rfl rfl rfl) ?_
  refine scons (CStep.step (PStep.c (p_move (y := .val _) rfl (Sees.of rfl) rfl)) rfl rfl rfl rfl) ?_
  refine scons (CStep.guard rfl rfl rfl (fun hg0 => PStep.c (p_fieldRef rfl wCnf_fld39_0 wCnf_siz3 rfl (Sees.of rfl) rfl)) rfl rfl rfl rfl rfl) ?_
  refine scons (CStep.guard rfl rfl rfl (fun hg0 => PStep.c (p_loadB (y := .val _) rfl wCnf_agg3 (Sees.gv' rfl hg0) rfl rfl rfl rfl)) rfl rfl rfl rfl rfl) ?_
  refine scons (CStep.guard rfl rfl rfl (fun hg0 => PStep.c (p_gtr rfl (Sees.gv' rfl hg0) (Sees.of rfl))) rfl rfl rfl rfl rfl) ?_
  refine scons (CStep.step (PStep.c (p_or rfl (Sees.of rfl) (Sees.of rfl) (fun h => Sees.gv' rfl (beq_of_eq h)))) rfl rfl rfl rfl) ?_
  refine snil ?_
  refine f_cond rfl ?_ ?_
  · intro hc1
    try simp only [bs] at hc1
    refine f_seq ?_
    refine f_region ?_
    refine scons (CStep.step (PStep.c (p_build rfl wCnf_plc26 wCnf_zer26 (by decide) wCnf_zch26 ⟨_, _, _, rfl, rfl, rfl, (Sees.of rfl), rfl⟩ rfl)) rfl rfl rfl rfl) ?_
    refine scons (r_storeS rfl wCnf_siz26 rfl rfl rfl (Sees.of rfl) rfl (Sees.of rfl) rfl rfl rfl rfl) ?_
    refine snil ?_
    refine f_ret ?_
    refine ends_ret (res_eq (res1 rfl (res_cell (by rfl) rfl rfl wCnf_agg26 wCnf_siz26 rfl rfl)) ?_)
    rw [Sp.check, if_pos (by omega)]
    all_goals rfl
  · intro hc1
    try simp only [bs] at hc1
    refine f_skip ?_
    refine f_seq ?_
    refine f_seq ?_
    refine f_region ?_
    refine scons (CStep.step (PStep.c (p_fieldRef rfl wCnf_fld39_1 wCnf_siz37 rfl (Sees.of rfl) rfl)) rfl rfl rfl rfl) ?_
    refine scons (CStep.step (PStep.c (p_loadB (y := .val _) rfl wCnf_agg37 (Sees.of rfl) rfl rfl rfl rfl)) rfl rfl rfl rfl) ?_
    refine scons (CStep.step (PStep.c (p_len rfl wCnf_isl37 (Sees.of rfl))) rfl rfl rfl rfl) ?_
    refine scons (CStep.step (PStep.c (p_gtr rfl (Sees.of rfl) (Sees.of rfl))) rfl rfl rfl rfl) ?_
    refine snil ?_
    refine f_cond rfl ?_ ?_
    · intro hc2
      try simp only [bs] at hc2
      refine f_seq ?_
      refine f_region ?_
      refine scons (CStep.step (PStep.c (p_build rfl wCnf_plc26 wCnf_zer26 (by decide) wCnf_zch26 ⟨_, _, _, rfl, rfl, rfl, (Sees.of rfl), rfl⟩ rfl)) rfl rfl rfl rfl) ?_
      refine scons (r_storeS rfl wCnf_siz26 rfl rfl rfl (Sees.of rfl) rfl (Sees.of rfl) rfl rfl rfl rfl) ?_
      refine snil ?_
      refine f_ret ?_
      refine ends_ret (res_eq (res1 rfl (res_cell (by rfl) rfl rfl wCnf_agg26 wCnf_siz26 rfl rfl)) ?_)
      rw [Sp.check, if_neg (by omega), if_pos (by omega)]
      all_goals rfl
    · intro hc2
      try simp only [bs] at hc2
      refine f_skip ?_
      refine f_seq ?_
      refine f_seq ?_
      refine f_region ?_
      refine scons (CStep.step (PStep.c (p_assign (y := .val _) rfl (Sees.of rfl) rfl)) rfl rfl rfl rfl) ?_
      refine snil ?_
      refine f_block ?_
      refine f_loop (α := Nat) (fun i => i ≤ ls.length ∧ Sp.check n ls = Sp.checkFrom n ls i) (fun i => [(3, iv i), (1, .ref 10001 0 0), (2, .ref 10002 0 0), (10001, .box 0 (.ccons (iv n) (.ccons (.val (intss ls)) .cnil))), (10002, .box 0 (.ccons (iv 0) (.ccons (iv 0) .cnil)))]) (fun i => ls.length - i) 0 ?_ ?_ ?_
      · exact ⟨Nat.zero_le _, by rw [Sp.check, if_neg (by omega), if_neg (by omega)]⟩
      · exact le_ofL ⟨rfl, rfl, rfl, rfl, rfl, trivial⟩ rfl
      · rintro i ⟨hi, he⟩
        refine f_seq ?_
        refine f_seq ?_
        refine f_region ?_
        refine scons (CStep.step (PStep.c (p_move (y := .val _) rfl (Sees.of rfl) rfl)) rfl rfl rfl rfl) ?_
        refine scons (CStep.step (PStep.c (p_fieldRef rfl wCnf_fld39_1 wCnf_siz37 rfl (Sees.of rfl) rfl)) rfl rfl rfl rfl) ?_
        refine scons (CStep.step (PStep.c (p_loadB (y := .val _) rfl wCnf_agg37 (Sees.of rfl) rfl rfl rfl rfl)) rfl rfl rfl rfl) ?_
        refine scons (CStep.step (PStep.c (p_len rfl wCnf_isl37 (Sees.of rfl))) rfl rfl rfl rfl) ?_
        refine scons (CStep.step (PStep.c (p_lss rfl (Sees.of rfl) (Sees.of rfl))) rfl rfl rfl rfl) ?_
        refine snil ?_
        refine f_cond rfl ?_ ?_
        · intro hc3
          try simp only [bs] at hc3
          refine f_skip ?_
          refine f_seq ?_
          refine f_block ?_
          refine f_seq ?_
          have hsl := hsub i (by omega)
          refine f_region ?_
          refine scons (CStep.step (PStep.c (p_assign (y := .val _) rfl (Sees.of rfl) rfl)) rfl rfl rfl rfl) ?_
          refine snil ?_
          refine f_seq ?_
          refine f_seq ?_
          refine f_region ?_
          refine scons (CStep.step (PStep.c (p_fieldRef rfl wCnf_fld39_1 wCnf_siz37 rfl (Sees.of rfl) rfl)) rfl rfl rfl rfl) ?_
          refine scons (CStep.step (PStep.c (p_loadB (y := .val _) rfl wCnf_agg37 (Sees.of rfl) rfl rfl rfl rfl)) rfl rfl rfl rfl) ?_
          refine scons (CStep.step (PStep.c (p_move (y := .val _) rfl (Sees.of rfl) rfl)) rfl rfl rfl rfl) ?_
          refine scons (CStep.step (PStep.c ((by first | exact p_indexN rfl wCnf_isl37 wCnf_siz33 (Sees.of rfl) (Sees.of rfl) (by omega) | exact p_index rfl wCnf_isl37 wCnf_siz33 (Sees.of rfl) (Sees.of rfl) (by omega) (by omega)))) rfl rfl rfl rfl) ?_
          refine scons (CStep.step (PStep.c (p_load rfl wCnf_agg33 (Sees.of rfl) rfl)) rfl rfl rfl rfl) ?_
          refine scons (CStep.step (PStep.c (p_len rfl wCnf_isl33 (Sees.of rfl))) rfl rfl rfl rfl) ?_
          refine scons (CStep.step (PStep.c (p_leq rfl (Sees.of rfl) (Sees.of rfl))) rfl rfl rfl rfl) ?_
          refine snil ?_
          refine f_cond rfl ?_ ?_
          · intro hc4
            try simp only [bs] at hc4
            refine f_draw wCnf_mix (by kernel_rfl) ?_
            refine dcons (CStep.step (PStep.c (p_fieldRef rfl wCnf_fld39_0 wCnf_siz3 rfl (Sees.of rfl) rfl)) rfl rfl rfl rfl) ?_
            refine dcons (CStep.step (PStep.c (p_loadB (y := .val _) rfl wCnf_agg3 (Sees.of rfl) rfl rfl rfl rfl)) rfl rfl rfl rfl) ?_
            refine dcons (CStep.step (PStep.c (p_fieldRef rfl wCnf_fld39_1 wCnf_siz37 rfl (Sees.of rfl) rfl)) rfl rfl rfl rfl) ?_
            refine dcons (CStep.step (PStep.c (p_loadB (y := .val _) rfl wCnf_agg37 (Sees.of rfl) rfl rfl rfl rfl)) rfl rfl rfl rfl) ?_
            refine dcons (CStep.step (PStep.c (p_move (y := .val _) rfl (Sees.of rfl) rfl)) rfl rfl rfl rfl) ?_
            refine dcons (CStep.step (PStep.c ((by first | exact p_indexN rfl wCnf_isl37 wCnf_siz33 (Sees.of rfl) (Sees.of rfl) (by omega) | exact p_index rfl wCnf_isl37 wCnf_siz33 (Sees.of rfl) (Sees.of rfl) (by omega) (by omega)))) rfl rfl rfl rfl) ?_
            refine dcons (CStep.step (PStep.c (p_load rfl wCnf_agg33 (Sees.of rfl) rfl)) rfl rfl rfl rfl) ?_
            refine dcons (CStep.step (c_call rfl wCnf_isf102 ⟨_, _, rfl, (Sees.of rfl), rfl, ⟨_, _, rfl, (Sees.of rfl), rfl, rfl⟩⟩ (wrong_spec (ls.getD i []) n (by omega))) rfl rfl rfl rfl) ?_
            refine dcons (CStep.step (PStep.c (p_move (y := .val _) rfl (Sees.of rfl) rfl)) rfl rfl rfl rfl) ?_
            refine dcons (CStep.step (PStep.c (p_extract rfl (Sees.of rfl) rfl)) rfl rfl rfl rfl) ?_
            refine dcons (CStep.step (PStep.c (p_extract rfl (Sees.of rfl) rfl)) rfl rfl rfl rfl) ?_
            refine dcons (CStep.step (PStep.c (p_assign (y := .val _) rfl (Sees.of rfl) rfl)) rfl rfl rfl rfl) ?_
            refine dnil (by kernel_rfl) ?_
            refine f_seq ?_
            refine f_region ?_
            refine scons (CStep.step (PStep.c (p_move (y := .val _) rfl (Sees.of rfl) rfl)) rfl rfl rfl rfl) ?_
            refine scons (CStep.step (PStep.c (p_neq rfl (Sees.of rfl) (Sees.of rfl))) rfl rfl rfl rfl) ?_
            refine snil ?_
            refine f_cond rfl ?_ ?_
            · intro hc5
              try simp only [bs] at hc5
              refine f_seq ?_
              refine f_region ?_
              refine scons (CStep.step (PStep.c (p_move (y := .val _) rfl (Sees.of rfl) rfl)) rfl rfl rfl rfl) ?_
              refine scons (CStep.step (PStep.c (p_move (y := .val _) rfl (Sees.of rfl) rfl)) rfl rfl rfl rfl) ?_
              refine scons (CStep.step (PStep.c (p_build rfl wCnf_plc26 wCnf_zer26 (by decide) wCnf_zch26 ⟨_, _, _, rfl, rfl, rfl, (Sees.of rfl), ⟨_, _, _, rfl, rfl, rfl, (Sees.of rfl), rfl⟩⟩ rfl)) rfl rfl rfl rfl) ?_
              refine scons (r_storeS rfl wCnf_siz26 rfl rfl rfl (Sees.of rfl) rfl (Sees.of rfl) rfl rfl rfl rfl) ?_
              refine snil ?_
              refine f_ret ?_
              refine ends_ret (res_eq (res1 rfl (res_cell (by rfl) rfl rfl wCnf_agg26 wCnf_siz26 rfl rfl)) ?_)
              rw [he, Sp.checkFrom, if_pos (by omega), if_neg (by omega), if_pos hc5]
              all_goals rfl
            · intro hc5
              try simp only [bs] at hc5
              refine f_skip ?_
              refine f_nil ?_
              show AWs _ _ _ _ _
              refine f_region ?_
              refine scons (CStep.step (PStep.c (p_move (y := .val _) rfl (Sees.of rfl) rfl)) rfl rfl rfl rfl) ?_
              refine scons (CStep.step (PStep.c (p_add rfl (Sees.of rfl) (Sees.of rfl) (by omega))) rfl rfl rfl rfl) ?_
              refine scons (CStep.step (PStep.c (p_assign (y := .val _) rfl (Sees.of rfl) rfl)) rfl rfl rfl rfl) ?_
              refine snil ?_
              refine f_back ⟨i + 1, ?_, ?_, le_ofL ⟨rfl, rfl, rfl, rfl, rfl, trivial⟩ rfl⟩
              · refine ⟨by omega, ?_⟩
                rw [he, Sp.checkFrom, if_pos (by omega), if_neg (by omega), if_neg (fun h => h hc5)]
              · omega
          · intro hc4
            try simp only [bs] at hc4
            refine f_skip ?_
            refine f_seq ?_
            refine f_region ?_
            refine scons (CStep.step (PStep.c (p_move (y := .val _) rfl (Sees.of rfl) rfl)) rfl rfl rfl rfl) ?_
            refine scons (CStep.step (PStep.c (p_neq rfl (Sees.of rfl) (Sees.of rfl))) rfl rfl rfl rfl) ?_
            refine snil ?_
            refine f_cond rfl ?_ ?_
            · intro hc6
              try simp only [bs] at hc6
              refine f_seq ?_
              refine f_region ?_
              refine scons (CStep.step (PStep.c (p_move (y := .val _) rfl (Sees.of rfl) rfl)) rfl rfl rfl rfl) ?_
              refine scons (CStep.step (PStep.c (p_move (y := .val _) rfl (Sees.of rfl) rfl)) rfl rfl rfl rfl) ?_
              refine scons (CStep.step (PStep.c (p_build rfl wCnf_plc26 wCnf_zer26 (by decide) wCnf_zch26 ⟨_, _, _, rfl, rfl, rfl, (Sees.of rfl), ⟨_, _, _, rfl, rfl, rfl, (Sees.of rfl), rfl⟩⟩ rfl)) rfl rfl rfl rfl) ?_
              refine scons (r_storeS rfl wCnf_siz26 rfl rfl rfl (Sees.of rfl) rfl (Sees.of rfl) rfl rfl rfl rfl) ?_
              refine snil ?_
              refine f_ret ?_
              refine ends_ret (res_eq (res1 rfl (res_cell (by rfl) rfl rfl wCnf_agg26 wCnf_siz26 rfl rfl)) ?_)
              rw [he, Sp.checkFrom, if_pos (by omega), if_pos (by omega)]
              all_goals rfl
            · intro hc6
              try simp only [bs] at hc6
              refine f_skip ?_
              refine f_nil ?_
              show AWs _ _ _ _ _
              refine f_region ?_
              refine scons (CStep.step (PStep.c (p_move (y := .val _) rfl (Sees.of rfl) rfl)) rfl rfl rfl rfl) ?_
              refine scons (CStep.step (PStep.c (p_add rfl (Sees.of rfl) (Sees.of rfl) (by omega))) rfl rfl rfl rfl) ?_
              refine scons (CStep.step (PStep.c (p_assign (y := .val _) rfl (Sees.of rfl) rfl)) rfl rfl rfl rfl) ?_
              refine snil ?_
              exact absurd hc6 (by decide)
        · intro hc3
          try simp only [bs] at hc3
          refine f_exit ?_
          show AWs _ _ _ _ _
          refine f_seq ?_
          refine f_region ?_
          refine scons (CStep.step (PStep.c (p_build rfl wCnf_plc26 wCnf_zer26 (by decide) wCnf_zch26 rfl rfl)) rfl rfl rfl rfl) ?_
          refine scons (r_storeS rfl wCnf_siz26 rfl rfl rfl (Sees.of rfl) rfl (Sees.of rfl) rfl rfl rfl rfl) ?_
          refine snil ?_
          refine f_ret ?_
          refine ends_ret (res_eq (res1 rfl (res_cell (by rfl) rfl rfl wCnf_agg26 wCnf_siz26 rfl rfl)) ?_)
          rw [he, Sp.checkFrom, if_neg (by omega)]
          all_goals rfl

theorem ccheck_spec (n : Int) (ls : List (List Int)) :
    Spec Go.Proofs.Try.prog 79 [.val (cnf n ls)] (fault (Sp.check n ls).1 (Sp.check n ls).2) := by
  refine spec_of' Go.Proofs.Try.func79 rfl Go.Proofs.Try.ntmps79 rfl ?_
  refine f_seq ?_
  refine f_wf (.tmp 0) rfl (fun hwf => ?_) (by simp)
  have hlen : ls.length ≤ 140737488355328 := hwf.2.1.1
  have hsub : ∀ i, i < ls.length → (ls.getD i []).length ≤ 140737488355328 := fun i hi => (hwf.2.1.2 _ (Sp.getD_mem ls i [] hi)).1
  clear hwf
  refine f_region ?_
  refine scons (r_box (ob := 10001) rfl (Sees.of rfl) rfl rfl rfl rfl rfl rfl) ?_
  refine scons (r_alloc (ob := 10002) rfl wCnf_zer26 rfl rfl rfl rfl rfl rfl) ?_
  refine snil ?_
  refine f_seq ?_
  refine f_block ?_
  refine f_seq ?_
  refine f_region ?_
  refine scons (CStep.step (PStep.c (p_fieldRef rfl wCnf_fld39_0 wCnf_siz3 rfl (Sees.of rfl) rfl)) rfl rfl rfl rfl) ?_
  refine scons (CStep.step (PStep.c (p_loadB (y := .val _) rfl wCnf_agg3 (Sees.of rfl) rfl rfl rfl rfl)) rfl rfl rfl rfl) ?_
  refine scons (CStep.step (PStep.c (p_lss rfl (Sees.of rfl) (Sees.of rfl))) rfl rfl rfl rfl) ?_
  refine scons (CStep.step (PStep.c (p_move (y := .val _) rfl (Sees.of rfl) rfl)) rfl rfl rfl rfl) ?_
  refine scons (CStep.guard rfl rfl rfl (fun hg0 => PStep.c (p_fieldRef rfl wCnf_fld39_0 wCnf_siz3 rfl (Sees.of rfl) rfl)) rfl rfl rfl rfl rfl) ?_
  refine scons (CStep.guard rfl rfl rfl (fun hg0 => PStep.c (p_loadB (y := .val _) rfl wCnf_agg3 (Sees.gv' rfl hg0) rfl rfl rfl rfl)) rfl rfl rfl rfl rfl) ?_
  refine scons (CStep.guard rfl rfl rfl (fun hg0 => PStep.c (p_gtr rfl (Sees.gv' rfl hg0) (Sees.of rfl))) rfl rfl rfl rfl rfl) ?_
  refine scons (CStep.step (PStep.c (p_or rfl (Sees.of rfl) (Sees.of rfl) (fun h => Sees.gv' rfl (beq_of_eq h)))) rfl rfl rfl rfl) ?_
  refine scons (CStep.step (PStep.c (p_assign (y := .val _) rfl (Sees.of rfl) rfl)) rfl rfl rfl rfl) ?_
  refine snil ?_
  refine f_cond rfl ?_ ?_
  · intro hc1
    try simp only [bs] at hc1
    refine f_seq ?_
    refine f_region ?_
    refine scons (CStep.step (PStep.c (p_build rfl wCnf_plc26 wCnf_zer26 (by decide) wCnf_zch26 ⟨_, _, _, rfl, rfl, rfl, (Sees.of rfl), rfl⟩ rfl)) rfl rfl rfl rfl) ?_
    refine scons (r_storeS rfl wCnf_siz26 rfl rfl rfl (Sees.of rfl) rfl (Sees.of rfl) rfl rfl rfl rfl) ?_
    refine snil ?_
    refine f_ret ?_
    refine ends_ret (res_eq (res1 rfl (res_cell (by rfl) rfl rfl wCnf_agg26 wCnf_siz26 rfl rfl)) ?_)
    rw [Sp.check, if_pos (by omega)]
    all_goals rfl
  · intro hc1
    try simp only [bs] at hc1
    refine f_seq ?_
    refine f_region ?_
    refine scons (CStep.step (PStep.c (p_fieldRef rfl wCnf_fld39_1 wCnf_siz37 rfl (Sees.of rfl) rfl)) rfl rfl rfl rfl) ?_
    refine scons (CStep.step (PStep.c (p_loadB (y := .val _) rfl wCnf_agg37 (Sees.of rfl) rfl rfl rfl rfl)) rfl rfl rfl rfl) ?_
    refine scons (CStep.step (PStep.c (p_len rfl wCnf_isl37 (Sees.of rfl))) rfl rfl rfl rfl) ?_
    refine scons (CStep.step (PStep.c (p_gtr rfl (Sees.of rfl) (Sees.of rfl))) rfl rfl rfl rfl) ?_
    refine scons (CStep.step (PStep.c (p_assign (y := .val _) rfl (Sees.of rfl) rfl)) rfl rfl rfl rfl) ?_
    refine snil ?_
    refine f_cond rfl ?_ ?_
    · intro hc2
      try simp only [bs] at hc2
      refine f_seq ?_
      refine f_region ?_
      refine scons (CStep.step (PStep.c (p_build rfl wCnf_plc26 wCnf_zer26 (by decide) wCnf_zch26 ⟨_, _, _, rfl, rfl, rfl, (Sees.of rfl), rfl⟩ rfl)) rfl rfl rfl rfl) ?_
      refine scons (r_storeS rfl wCnf_siz26 rfl rfl rfl (Sees.of rfl) rfl (Sees.of rfl) rfl rfl rfl rfl) ?_
      refine snil ?_
      refine f_ret ?_
      refine ends_ret (res_eq (res1 rfl (res_cell (by rfl) rfl rfl wCnf_agg26 wCnf_siz26 rfl rfl)) ?_)
      rw [Sp.check, if_neg (by omega), if_pos (by omega)]
      all_goals rfl
    · intro hc2
      try simp only [bs] at hc2
      refine f_skip ?_
      refine f_nil ?_
      show AWs _ _ _ _ _
      refine f_seq ?_
      refine f_seq ?_
      refine f_region ?_
      refine scons (CStep.step (PStep.c (p_fieldRef rfl wCnf_fld39_1 wCnf_siz37 rfl (Sees.of rfl) rfl)) rfl rfl rfl rfl) ?_
      refine scons (CStep.step (PStep.c (p_loadB (y := .val _) rfl wCnf_agg37 (Sees.of rfl) rfl rfl rfl rfl)) rfl rfl rfl rfl) ?_
      refine scons (CStep.step (PStep.c (p_len rfl wCnf_isl37 (Sees.of rfl))) rfl rfl rfl rfl) ?_
      refine scons (CStep.step (PStep.c (p_move (y := .val _) rfl (Sees.of rfl) rfl)) rfl rfl rfl rfl) ?_
      refine snil ?_
      refine f_block ?_
      refine f_loop (α := Nat) (fun i => i ≤ ls.length ∧ Sp.check n ls = Sp.checkFrom n ls i) (fun i => [(26, iv i), (1, .ref 10001 0 0), (2, .ref 10002 0 0), (24, .val (intss ls)), (25, iv ls.length), (10001, .box 0 (.ccons (iv n) (.ccons (.val (intss ls)) .cnil))), (10002, .box 0 (.ccons (iv 0) (.ccons (iv 0) .cnil)))]) (fun i => ls.length - i) 0 ?_ ?_ ?_
      · exact ⟨Nat.zero_le _, by rw [Sp.check, if_neg (by omega), if_neg (by omega)]⟩
      · exact le_ofL ⟨rfl, rfl, rfl, rfl, rfl, rfl, rfl, trivial⟩ rfl
      · rintro i ⟨hi, he⟩
        refine f_seq ?_
        refine f_region ?_
        refine scons (CStep.step (PStep.c (p_lss rfl (Sees.of rfl) (Sees.of rfl))) rfl rfl rfl rfl) ?_
        refine snil ?_
        refine f_seq ?_
        refine f_cond rfl ?_ ?_
        · intro hc3
          try simp only [bs] at hc3
          refine f_skip ?_
          refine f_seq ?_
          refine f_block ?_
          refine f_seq ?_
          refine f_region ?_
          refine scons (CStep.step (PStep.c (p_move (y := .val _) rfl (Sees.of rfl) rfl)) rfl rfl rfl rfl) ?_
          refine scons (CStep.step (PStep.c ((by first | exact p_indexN rfl wCnf_isl37 wCnf_siz33 (Sees.of rfl) (Sees.of rfl) (by omega) | exact p_index rfl wCnf_isl37 wCnf_siz33 (Sees.of rfl) (Sees.of rfl) (by omega) (by omega)))) rfl rfl rfl rfl) ?_
          refine scons (CStep.step (PStep.c (p_load rfl wCnf_agg33 (Sees.of rfl) rfl)) rfl rfl rfl rfl) ?_
          refine scons (CStep.step (PStep.c (p_assign (y := .val _) rfl (Sees.of rfl) rfl)) rfl rfl rfl rfl) ?_
          refine scons (CStep.step (PStep.c (p_assign (y := .val _) rfl (Sees.of rfl) rfl)) rfl rfl rfl rfl) ?_
          refine snil ?_
          refine f_seq ?_
          refine f_seq ?_
          have hsl := hsub i (by omega)
          refine f_region ?_
          refine scons (CStep.step (PStep.c (p_move (y := .val _) rfl (Sees.of rfl) rfl)) rfl rfl rfl rfl) ?_
          refine scons (CStep.step (PStep.c (p_len rfl wCnf_isl33 (Sees.of rfl))) rfl rfl rfl rfl) ?_
          refine scons (CStep.step (PStep.c (p_gtr rfl (Sees.of rfl) (Sees.of rfl))) rfl rfl rfl rfl) ?_
          refine snil ?_
          refine f_cond rfl ?_ ?_
          · intro hc4
            try simp only [bs] at hc4
            refine f_seq ?_
            refine f_region ?_
            refine scons (CStep.step (PStep.c (p_move (y := .val _) rfl (Sees.of rfl) rfl)) rfl rfl rfl rfl) ?_
            refine scons (CStep.step (PStep.c (p_build rfl wCnf_plc26 wCnf_zer26 (by decide) wCnf_zch26 ⟨_, _, _, rfl, rfl, rfl, (Sees.of rfl), ⟨_, _, _, rfl, rfl, rfl, (Sees.of rfl), rfl⟩⟩ rfl)) rfl rfl rfl rfl) ?_
            refine scons (r_storeS rfl wCnf_siz26 rfl rfl rfl (Sees.of rfl) rfl (Sees.of rfl) rfl rfl rfl rfl) ?_
            refine snil ?_
            refine f_ret ?_
            refine ends_ret (res_eq (res1 rfl (res_cell (by rfl) rfl rfl wCnf_agg26 wCnf_siz26 rfl rfl)) ?_)
            rw [he, Sp.checkFrom, if_pos (by omega), if_pos (by omega)]
            all_goals rfl
          · intro hc4
            try simp only [bs] at hc4
            refine f_skip ?_
            refine f_seq ?_
            refine f_region ?_
            refine scons (CStep.step (PStep.c (p_move (y := .val _) rfl (Sees.of rfl) rfl)) rfl rfl rfl rfl) ?_
            refine scons (CStep.step (PStep.c (p_fieldRef rfl wCnf_fld39_0 wCnf_siz3 rfl (Sees.of rfl) rfl)) rfl rfl rfl rfl) ?_
            refine scons (CStep.step (PStep.c (p_loadB (y := .val _) rfl wCnf_agg3 (Sees.of rfl) rfl rfl rfl rfl)) rfl rfl rfl rfl) ?_
            refine scons (CStep.step (c_call rfl wCnf_isf116 ⟨_, _, rfl, (Sees.of rfl), rfl, ⟨_, _, rfl, (Sees.of rfl), rfl, rfl⟩⟩ (bad_spec (ls.getD i []) n (by omega))) rfl rfl rfl rfl) ?_
            refine scons (CStep.step (PStep.c (p_move (y := .val _) rfl (Sees.of rfl) rfl)) rfl rfl rfl rfl) ?_
            refine scons (CStep.step (PStep.c (p_extract rfl (Sees.of rfl) rfl)) rfl rfl rfl rfl) ?_
            refine scons (CStep.step (PStep.c (p_extract rfl (Sees.of rfl) rfl)) rfl rfl rfl rfl) ?_
            refine scons (CStep.step (PStep.c (p_assign (y := .val _) rfl (Sees.of rfl) rfl)) rfl rfl rfl rfl) ?_
            refine scons (CStep.step (PStep.c (p_assign (y := .val _) rfl (Sees.of rfl) rfl)) rfl rfl rfl rfl) ?_
            refine snil ?_
            refine f_seq ?_
            refine f_region ?_
            refine scons (CStep.step (PStep.c (p_move (y := .val _) rfl (Sees.of rfl) rfl)) rfl rfl rfl rfl) ?_
            refine scons (CStep.step (PStep.c (p_neq rfl (Sees.of rfl) (Sees.of rfl))) rfl rfl rfl rfl) ?_
            refine snil ?_
            refine f_cond rfl ?_ ?_
            · intro hc5
              try simp only [bs] at hc5
              refine f_seq ?_
              refine f_region ?_
              refine scons (CStep.step (PStep.c (p_move (y := .val _) rfl (Sees.of rfl) rfl)) rfl rfl rfl rfl) ?_
              refine scons (CStep.step (PStep.c (p_move (y := .val _) rfl (Sees.of rfl) rfl)) rfl rfl rfl rfl) ?_
              refine scons (CStep.step (PStep.c (p_build rfl wCnf_plc26 wCnf_zer26 (by decide) wCnf_zch26 ⟨_, _, _, rfl, rfl, rfl, (Sees.of rfl), ⟨_, _, _, rfl, rfl, rfl, (Sees.of rfl), rfl⟩⟩ rfl)) rfl rfl rfl rfl) ?_
              refine scons (r_storeS rfl wCnf_siz26 rfl rfl rfl (Sees.of rfl) rfl (Sees.of rfl) rfl rfl rfl rfl) ?_
              refine snil ?_
              refine f_ret ?_
              refine ends_ret (res_eq (res1 rfl (res_cell (by rfl) rfl rfl wCnf_agg26 wCnf_siz26 rfl rfl)) ?_)
              rw [he, Sp.checkFrom, if_pos (by omega), if_neg (by omega), if_pos hc5]
              all_goals rfl
            · intro hc5
              try simp only [bs] at hc5
              refine f_skip ?_
              refine f_nil ?_
              show AWs _ _ _ _ _
              refine f_region ?_
              refine scons (CStep.step (PStep.c (p_add rfl (Sees.of rfl) (Sees.of rfl) (by omega))) rfl rfl rfl rfl) ?_
              refine scons (CStep.step (PStep.c (p_move (y := .val _) rfl (Sees.of rfl) rfl)) rfl rfl rfl rfl) ?_
              refine snil ?_
              refine f_back ⟨i + 1, ?_, ?_, le_ofL ⟨rfl, rfl, rfl, rfl, rfl, rfl, rfl, trivial⟩ rfl⟩
              · refine ⟨by omega, ?_⟩
                rw [he, Sp.checkFrom, if_pos (by omega), if_neg (by omega), if_neg (fun h => h hc5)]
              · omega
        · intro hc3
          try simp only [bs] at hc3
          refine f_exit ?_
          show AWs _ _ _ _ _
          refine f_seq ?_
          refine f_region ?_
          refine scons (CStep.step (PStep.c (p_build rfl wCnf_plc26 wCnf_zer26 (by decide) wCnf_zch26 rfl rfl)) rfl rfl rfl rfl) ?_
          refine scons (r_storeS rfl wCnf_siz26 rfl rfl rfl (Sees.of rfl) rfl (Sees.of rfl) rfl rfl rfl rfl) ?_
          refine snil ?_
          refine f_ret ?_
          refine ends_ret (res_eq (res1 rfl (res_cell (by rfl) rfl rfl wCnf_agg26 wCnf_siz26 rfl rfl)) ?_)
          rw [he, Sp.checkFrom, if_neg (by omega)]
          all_goals rfl

theorem list_spec (l : List Int) (n : Int) (hn : 0 ≤ n ∧ n ≤ 4000000000000000000) :
    Spec Go.Proofs.Try.prog 103 [.val (ints l), iv n] (fault (Sp.listed n l).1 (Sp.listed n l).2) := by
  refine spec_of' Go.Proofs.Try.func103 rfl Go.Proofs.Try.ntmps103 rfl ?_
  refine f_seq ?_
  refine f_wf (.tmp 0) rfl (fun hwf => ?_) (by simp)
  have hlen : l.length ≤ 140737488355328 := hwf.1
  clear hwf
  have hat := Sp.wrong_at n l
  refine f_region ?_
  refine scons (r_alloc (ob := 10004) rfl wCnf_zer26 rfl rfl rfl rfl rfl rfl) ?_
  refine snil ?_
  refine f_seq ?_
  refine f_seq ?_
  refine f_region ?_
  refine scons (CStep.step (PStep.c (p_move (y := .val _) rfl (Sees.of rfl) rfl)) rfl rfl rfl rfl) ?_
  refine scons (CStep.step (PStep.c (p_move (y := .val _) rfl (Sees.of rfl) rfl)) rfl rfl rfl rfl) ?_
  refine scons (CStep.step (c_call rfl wCnf_isf116 ⟨_, _, rfl, (Sees.of rfl), rfl, ⟨_, _, rfl, (Sees.of rfl), rfl, rfl⟩⟩ (bad_spec l n hn)) rfl rfl rfl rfl) ?_
  refine scons (CStep.step (PStep.c (p_move (y := .val _) rfl (Sees.of rfl) rfl)) rfl rfl rfl rfl) ?_
  refine scons (CStep.step (PStep.c (p_extract rfl (Sees.of rfl) rfl)) rfl rfl rfl rfl) ?_
  refine scons (CStep.step (PStep.c (p_extract rfl (Sees.of rfl) rfl)) rfl rfl rfl rfl) ?_
  refine scons (CStep.step (PStep.c (p_assign (y := .val _) rfl (Sees.of rfl) rfl)) rfl rfl rfl rfl) ?_
  refine scons (CStep.step (PStep.c (p_assign (y := .val _) rfl (Sees.of rfl) rfl)) rfl rfl rfl rfl) ?_
  refine snil ?_
  refine f_seq ?_
  refine f_region ?_
  refine scons (CStep.step (PStep.c (p_move (y := .val _) rfl (Sees.of rfl) rfl)) rfl rfl rfl rfl) ?_
  refine scons (CStep.step (PStep.c (p_neq rfl (Sees.of rfl) (Sees.of rfl))) rfl rfl rfl rfl) ?_
  refine snil ?_
  refine f_cond rfl ?_ ?_
  · intro hc1
    try simp only [bs] at hc1
    refine f_seq ?_
    refine f_region ?_
    refine scons (CStep.step (PStep.c (p_move (y := .val _) rfl (Sees.of rfl) rfl)) rfl rfl rfl rfl) ?_
    refine scons (CStep.step (PStep.c (p_move (y := .val _) rfl (Sees.of rfl) rfl)) rfl rfl rfl rfl) ?_
    refine scons (CStep.step (PStep.c (p_sub rfl (Sees.of rfl) (Sees.of rfl) (by omega))) rfl rfl rfl rfl) ?_
    refine scons (CStep.step (PStep.c (p_build rfl wCnf_plc26 wCnf_zer26 (by decide) wCnf_zch26 ⟨_, _, _, rfl, rfl, rfl, (Sees.of rfl), ⟨_, _, _, rfl, rfl, rfl, (Sees.of rfl), rfl⟩⟩ rfl)) rfl rfl rfl rfl) ?_
    refine scons (r_storeS rfl wCnf_siz26 rfl rfl rfl (Sees.of rfl) rfl (Sees.of rfl) rfl rfl rfl rfl) ?_
    refine snil ?_
    refine f_ret ?_
    refine ends_ret (res_eq (res1 rfl (res_cell (by rfl) rfl rfl wCnf_agg26 wCnf_siz26 rfl rfl)) ?_)
    rw [Sp.listed, if_pos hc1]
    all_goals rfl
  · intro hc1
    try simp only [bs] at hc1
    refine f_skip ?_
    refine f_seq ?_
    refine f_region ?_
    refine scons (CStep.step (PStep.c (p_build rfl wCnf_plc26 wCnf_zer26 (by decide) wCnf_zch26 rfl rfl)) rfl rfl rfl rfl) ?_
    refine scons (r_storeS rfl wCnf_siz26 rfl rfl rfl (Sees.of rfl) rfl (Sees.of rfl) rfl rfl rfl rfl) ?_
    refine snil ?_
    refine f_ret ?_
    refine ends_ret (res_eq (res1 rfl (res_cell (by rfl) rfl rfl wCnf_agg26 wCnf_siz26 rfl rfl)) ?_)
    rw [Sp.listed, if_neg (fun h => h hc1)]
    all_goals rfl

theorem beside_spec (n : Int) (ls : List (List Int)) (l : List Int) :
    Spec Go.Proofs.Try.prog 57 [.val (cnf n ls), .val (ints l)] (fault (Sp.beside n ls l).1 (Sp.beside n ls l).2) := by
  refine spec_of' Go.Proofs.Try.func57 rfl Go.Proofs.Try.ntmps57 rfl ?_
  refine f_seq ?_
  refine f_wf (.tmp 1) rfl (fun hwf => ?_) (by simp)
  have hlen : l.length ≤ 140737488355328 := hwf.1
  clear hwf
  have hat := Sp.wrong_at n l
  refine f_region ?_
  refine scons (r_box (ob := 10002) rfl (Sees.of rfl) rfl rfl rfl rfl rfl rfl) ?_
  refine scons (r_alloc (ob := 10004) rfl wCnf_zer26 rfl rfl rfl rfl rfl rfl) ?_
  refine snil ?_
  refine f_seq ?_
  refine f_region ?_
  refine scons (CStep.step (PStep.c (p_loadBS rfl wCnf_agg39 wCnf_siz39 (Sees.of rfl) rfl rfl rfl)) rfl rfl rfl rfl) ?_
  refine scons (CStep.step (c_call rfl wCnf_isf101 ⟨_, _, rfl, (Sees.of rfl), rfl, rfl⟩ (check_spec n ls)) rfl rfl rfl rfl) ?_
  refine scons (r_alloc (ob := 10005) rfl wCnf_zer26 rfl rfl rfl rfl rfl rfl) ?_
  refine scons (r_storeS rfl wCnf_siz26 rfl rfl rfl (Sees.of rfl) rfl (Sees.of rfl) rfl rfl rfl rfl) ?_
  refine snil ?_
  refine f_seq ?_
  refine f_seq ?_
  refine f_region ?_
  refine scons (CStep.step (PStep.c (p_fieldRef rfl wCnf_fld26_0 wCnf_siz3 rfl (Sees.of rfl) rfl)) rfl rfl rfl rfl) ?_
  refine scons (CStep.step (PStep.c (p_loadB (y := .val _) rfl wCnf_agg3 (Sees.of rfl) rfl rfl rfl rfl)) rfl rfl rfl rfl) ?_
  refine scons (CStep.step (PStep.c (p_eql rfl (Sees.of rfl) (Sees.of rfl))) rfl rfl rfl rfl) ?_
  refine snil ?_
  refine f_cond rfl ?_ ?_
  · intro hc1
    try simp only [bs] at hc1
    refine f_seq ?_
    have hok := Sp.check_ok hc1
    refine f_region ?_
    refine scons (CStep.step (PStep.c (p_fieldRef rfl wCnf_fld39_0 wCnf_siz3 rfl (Sees.of rfl) rfl)) rfl rfl rfl rfl) ?_
    refine scons (CStep.step (PStep.c (p_loadB (y := .val _) rfl wCnf_agg3 (Sees.of rfl) rfl rfl rfl rfl)) rfl rfl rfl rfl) ?_
    refine scons (CStep.step (PStep.c (p_move (y := .val _) rfl (Sees.of rfl) rfl)) rfl rfl rfl rfl) ?_
    refine scons (CStep.step (c_call rfl wCnf_isf102 ⟨_, _, rfl, (Sees.of rfl), rfl, ⟨_, _, rfl, (Sees.of rfl), rfl, rfl⟩⟩ (wrong_spec l n (by omega))) rfl rfl rfl rfl) ?_
    refine scons (CStep.step (PStep.c (p_move (y := .val _) rfl (Sees.of rfl) rfl)) rfl rfl rfl rfl) ?_
    refine scons (CStep.step (PStep.c (p_extract rfl (Sees.of rfl) rfl)) rfl rfl rfl rfl) ?_
    refine scons (CStep.step (PStep.c (p_extract rfl (Sees.of rfl) rfl)) rfl rfl rfl rfl) ?_
    refine scons (CStep.step (PStep.c (p_assign (y := .val _) rfl (Sees.of rfl) rfl)) rfl rfl rfl rfl) ?_
    refine scons (CStep.step (PStep.c (p_assign (y := .val _) rfl (Sees.of rfl) rfl)) rfl rfl rfl rfl) ?_
    refine snil ?_
    refine f_seq ?_
    refine f_region ?_
    refine scons (CStep.step (PStep.c (p_move (y := .val _) rfl (Sees.of rfl) rfl)) rfl rfl rfl rfl) ?_
    refine scons (CStep.step (PStep.c (p_neq rfl (Sees.of rfl) (Sees.of rfl))) rfl rfl rfl rfl) ?_
    refine snil ?_
    refine f_cond rfl ?_ ?_
    · intro hc2
      try simp only [bs] at hc2
      refine f_region ?_
      refine scons (CStep.step (PStep.c (p_move (y := .val _) rfl (Sees.of rfl) rfl)) rfl rfl rfl rfl) ?_
      refine scons (CStep.step (PStep.c (p_move (y := .val _) rfl (Sees.of rfl) rfl)) rfl rfl rfl rfl) ?_
      refine scons (CStep.step (PStep.c (p_sub rfl (Sees.of rfl) (Sees.of rfl) (by omega))) rfl rfl rfl rfl) ?_
      refine scons (CStep.step (PStep.c (p_build rfl wCnf_plc26 wCnf_zer26 (by decide) wCnf_zch26 ⟨_, _, _, rfl, rfl, rfl, (Sees.of rfl), ⟨_, _, _, rfl, rfl, rfl, (Sees.of rfl), rfl⟩⟩ rfl)) rfl rfl rfl rfl) ?_
      refine scons (r_storeS rfl wCnf_siz26 rfl rfl rfl (Sees.of rfl) rfl (Sees.of rfl) rfl rfl rfl rfl) ?_
      refine snil ?_
      refine f_seq ?_
      refine f_region ?_
      refine scons (CStep.step (PStep.c (p_loadBS rfl wCnf_agg26 wCnf_siz26 (Sees.of rfl) rfl rfl rfl)) rfl rfl rfl rfl) ?_
      refine scons (r_storeS rfl wCnf_siz26 rfl rfl rfl (Sees.of rfl) rfl (Sees.of rfl) rfl rfl rfl rfl) ?_
      refine snil ?_
      refine f_ret ?_
      refine ends_ret (res_eq (res1 rfl (res_cell (by rfl) rfl rfl wCnf_agg26 wCnf_siz26 rfl rfl)) ?_)
      rw [Sp.beside, if_pos hc1, Sp.listed, if_pos hc2]
      all_goals rfl
    · intro hc2
      try simp only [bs] at hc2
      refine f_skip ?_
      refine f_seq ?_
      refine f_region ?_
      refine scons (CStep.step (PStep.c (p_loadBS rfl wCnf_agg26 wCnf_siz26 (Sees.of rfl) rfl rfl rfl)) rfl rfl rfl rfl) ?_
      refine scons (r_storeS rfl wCnf_siz26 rfl rfl rfl (Sees.of rfl) rfl (Sees.of rfl) rfl rfl rfl rfl) ?_
      refine snil ?_
      refine f_ret ?_
      refine ends_ret (res_eq (res1 rfl (res_cell (by rfl) rfl rfl wCnf_agg26 wCnf_siz26 rfl rfl)) ?_)
      have h0 : Sp.check n ls = (0, 0) := Sp.check_zero hc1
      rw [Sp.beside, if_pos hc1, Sp.listed, if_neg (fun h => h hc2), h0]
      all_goals rfl
  · intro hc1
    try simp only [bs] at hc1
    refine f_skip ?_
    refine f_seq ?_
    refine f_region ?_
    refine scons (CStep.step (PStep.c (p_loadBS rfl wCnf_agg26 wCnf_siz26 (Sees.of rfl) rfl rfl rfl)) rfl rfl rfl rfl) ?_
    refine scons (r_storeS rfl wCnf_siz26 rfl rfl rfl (Sees.of rfl) rfl (Sees.of rfl) rfl rfl rfl rfl) ?_
    refine snil ?_
    refine f_ret ?_
    refine ends_ret (res_eq (res1 rfl (res_cell (by rfl) rfl rfl wCnf_agg26 wCnf_siz26 rfl rfl)) ?_)
    rw [Sp.beside, if_neg hc1]
    all_goals rfl

end Go.Um
