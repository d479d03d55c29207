/- Walks of Go functions of this seat, each by its contract. No condition beyond what each theorem says. -/
import Derived.Test.YtofonmfoificjaaWFind
import Derived.Test.YtofonmfoificjaaSv2
import Derived.Test.YtofonmfoificjaaWBrk
import Derived.Test.YtofonmfoificjaaProg
import Derived.KernelRfl
set_option maxRecDepth 4000
namespace Go.Um
open Go Go.RowKit

theorem wFind2_agg22 : IsAgg Go.Proofs.Try.prog 22 false := by unfold IsAgg; kernel_rfl
theorem wFind2_agg24 : IsAgg Go.Proofs.Try.prog 24 true := by unfold IsAgg; kernel_rfl
theorem wFind2_agg25 : IsAgg Go.Proofs.Try.prog 25 false := by unfold IsAgg; kernel_rfl
theorem wFind2_agg28 : IsAgg Go.Proofs.Try.prog 28 true := by unfold IsAgg; kernel_rfl
theorem wFind2_agg3 : IsAgg Go.Proofs.Try.prog 3 false := by unfold IsAgg; kernel_rfl
theorem wFind2_agg4 : IsAgg Go.Proofs.Try.prog 4 false := by unfold IsAgg; kernel_rfl
theorem wFind2_agg54 : IsAgg Go.Proofs.Try.prog 54 true := by unfold IsAgg; kernel_rfl
theorem wFind2_boo4 : IsBool Go.Proofs.Try.prog 4 := by unfold IsBool; kernel_rfl
theorem wFind2_byt3 : Bytes Go.Proofs.Try.prog 3 8 := by unfold Bytes; kernel_rfl
theorem wFind2_byt54 : Bytes Go.Proofs.Try.prog 54 32 := by unfold Bytes; kernel_rfl
theorem wFind2_eq228 : Eq2 Go.Proofs.Try.prog 28 := ⟨_, _, Go.Proofs.Try.underlying28, by decide, by decide, rfl, rfl, Go.Proofs.Try.underlying3, Go.Proofs.Try.underlying3, by kernel_rfl, by kernel_rfl⟩
theorem wFind2_fld24_1 : IsField Go.Proofs.Try.prog 24 1 1 22 := by unfold IsField; kernel_rfl
theorem wFind2_fld28_0 : IsField Go.Proofs.Try.prog 28 0 0 3 := by unfold IsField; kernel_rfl
theorem wFind2_fld54_0 : IsField Go.Proofs.Try.prog 54 0 0 25 := by unfold IsField; kernel_rfl
theorem wFind2_fld54_1 : IsField Go.Proofs.Try.prog 54 1 1 4 := by unfold IsField; kernel_rfl
theorem wFind2_isf109 : IsFn Go.Proofs.Try.prog 109 := by unfold IsFn; kernel_rfl
theorem wFind2_isf110 : IsFn Go.Proofs.Try.prog 110 := by unfold IsFn; kernel_rfl
theorem wFind2_isf111 : IsFn Go.Proofs.Try.prog 111 := by unfold IsFn; kernel_rfl
theorem wFind2_isf23 : IsFn Go.Proofs.Try.prog 23 := by unfold IsFn; kernel_rfl
theorem wFind2_isf33 : IsFn Go.Proofs.Try.prog 33 := by unfold IsFn; kernel_rfl
theorem wFind2_isf40 : IsFn Go.Proofs.Try.prog 40 := by unfold IsFn; kernel_rfl
theorem wFind2_isf48 : IsFn Go.Proofs.Try.prog 48 := by unfold IsFn; kernel_rfl
theorem wFind2_isf49 : IsFn Go.Proofs.Try.prog 49 := by unfold IsFn; kernel_rfl
theorem wFind2_isf50 : IsFn Go.Proofs.Try.prog 50 := by unfold IsFn; kernel_rfl
theorem wFind2_isf51 : IsFn Go.Proofs.Try.prog 51 := by unfold IsFn; kernel_rfl
theorem wFind2_isf55 : IsFn Go.Proofs.Try.prog 55 := by unfold IsFn; kernel_rfl
theorem wFind2_isf81 : IsFn Go.Proofs.Try.prog 81 := by unfold IsFn; kernel_rfl
theorem wFind2_isl22 : IsSlice Go.Proofs.Try.prog 22 25 := by unfold IsSlice; kernel_rfl
theorem wFind2_isl25 : IsSlice Go.Proofs.Try.prog 25 3 := by unfold IsSlice; kernel_rfl
theorem wFind2_isl58 : IsSlice Go.Proofs.Try.prog 58 54 := by unfold IsSlice; kernel_rfl
theorem wFind2_mix : (Go.Proofs.Try.prog).follows .mixedOrders = true := by kernel_rfl
theorem wFind2_plc54 : Places Go.Proofs.Try.prog 54 [(0, 1), (1, 1)] := by unfold Places; kernel_rfl
theorem wFind2_siz22 : Size Go.Proofs.Try.prog 22 1 := by unfold Size; kernel_rfl
theorem wFind2_siz24 : Size Go.Proofs.Try.prog 24 2 := by unfold Size; kernel_rfl
theorem wFind2_siz25 : Size Go.Proofs.Try.prog 25 1 := by unfold Size; kernel_rfl
theorem wFind2_siz28 : Size Go.Proofs.Try.prog 28 2 := by unfold Size; kernel_rfl
theorem wFind2_siz3 : Size Go.Proofs.Try.prog 3 1 := by unfold Size; kernel_rfl
theorem wFind2_siz4 : Size Go.Proofs.Try.prog 4 1 := by unfold Size; kernel_rfl
theorem wFind2_siz54 : Size Go.Proofs.Try.prog 54 2 := by unfold Size; kernel_rfl
def wFind2_z54 : D := .cons (ints []) (.cons (.bool false) (.nil))
theorem wFind2_zch54 : ∀ (ok : Nat → Prop) (w : World), R Go.Proofs.Try.prog wFind2_z54 ok w (Value.cells (.agg #[(.slice none 0 0), (.bool false)])).toList := fun _ _ => z_list (z_bool (z_nil))
theorem wFind2_zer28 : Zero Go.Proofs.Try.prog 28 (.agg #[(.int .i64 0), (.int .i64 0)]) := by unfold Zero; kernel_rfl
theorem wFind2_zer3 : Zero Go.Proofs.Try.prog 3 (.int .i64 0) := by unfold Zero; kernel_rfl
theorem wFind2_zer54 : Zero Go.Proofs.Try.prog 54 (.agg #[(.slice none 0 0), (.bool false)]) := by unfold Zero; kernel_rfl

theorem parSameN_spec (a b : List Int × Bool) :
    Spec Go.Proofs.Try.prog 55 [.val (dPar a), .val (dPar b)] (D.bool (decide (a = b))) := by
  refine spec_of' Go.Proofs.Try.func55 rfl Go.Proofs.Try.ntmps55 rfl ?_
  refine f_seq ?_
  refine f_region ?_
  refine scons (r_box (ob := 10002) rfl (Sees.of rfl) rfl rfl rfl rfl rfl rfl) ?_
  refine scons (r_box (ob := 10003) rfl (Sees.of rfl) rfl rfl rfl rfl rfl rfl) ?_
  refine scons (CStep.step (PStep.c (p_assign (y := .val _) rfl (Sees.of rfl) rfl)) rfl rfl rfl rfl) ?_
  refine snil ?_
  refine f_seq ?_
  refine f_region ?_
  refine scons (CStep.step (PStep.c (p_fieldRef rfl wFind2_fld54_1 wFind2_siz4 rfl (Sees.of rfl) rfl)) rfl rfl rfl rfl) ?_
  refine scons (CStep.step (PStep.c (p_loadB (y := .val _) rfl wFind2_agg4 (Sees.of rfl) rfl rfl rfl rfl)) rfl rfl rfl rfl) ?_
  refine scons (CStep.step (PStep.c (p_fieldRef rfl wFind2_fld54_1 wFind2_siz4 rfl (Sees.of rfl) rfl)) rfl rfl rfl rfl) ?_
  refine scons (CStep.step (PStep.c (p_loadB (y := .val _) rfl wFind2_agg4 (Sees.of rfl) rfl rfl rfl rfl)) rfl rfl rfl rfl) ?_
  refine scons (CStep.step (PStep.c (p_eqlB rfl wFind2_boo4 (Sees.of rfl) (Sees.of rfl))) rfl rfl rfl rfl) ?_
  refine scons (CStep.step (PStep.c (p_move (y := .val _) rfl (Sees.of rfl) rfl)) rfl rfl rfl rfl) ?_
  refine scons (CStep.guard rfl rfl rfl (fun hg0 => PStep.c (p_fieldRef rfl wFind2_fld54_0 wFind2_siz25 rfl (Sees.of rfl) rfl)) rfl rfl rfl rfl rfl) ?_
  refine scons (CStep.guard rfl rfl rfl (fun hg0 => PStep.c (p_loadB (y := .val _) rfl wFind2_agg25 (Sees.gv' rfl hg0) rfl rfl rfl rfl)) rfl rfl rfl rfl rfl) ?_
  refine scons (CStep.guard rfl rfl rfl (fun hg0 => PStep.c (p_fieldRef rfl wFind2_fld54_0 wFind2_siz25 rfl (Sees.of rfl) rfl)) rfl rfl rfl rfl rfl) ?_
  refine scons (CStep.guard rfl rfl rfl (fun hg0 => PStep.c (p_loadB (y := .val _) rfl wFind2_agg25 (Sees.gv' rfl hg0) rfl rfl rfl rfl)) rfl rfl rfl rfl rfl) ?_
  refine scons (CStep.guard rfl rfl rfl (fun hg0 => c_call rfl wFind2_isf40 ⟨_, _, rfl, (Sees.gv' rfl hg0), rfl, ⟨_, _, rfl, (Sees.gv' rfl hg0), rfl, rfl⟩⟩ (sameN_spec _ _)) rfl rfl rfl rfl rfl) ?_
  refine scons (CStep.step (PStep.c (p_and rfl (Sees.of rfl) (fun h => Sees.gv' rfl (beq_of_eq h)) (Sees.of rfl))) rfl rfl rfl rfl) ?_
  refine scons (CStep.step (PStep.c (p_assign (y := .val _) rfl (Sees.of rfl) rfl)) rfl rfl rfl rfl) ?_
  refine snil ?_
  refine f_ret ?_
  refine ends_ret (res_eq (res1 rfl (res_tmp rfl (Sees.of rfl))) ?_)
  obtain ⟨a1, a2⟩ := a
  obtain ⟨b1, b2⟩ := b
  cases a2 <;> cases b2 <;> simp

theorem parRows_spec (a b : List (List Int × Bool)) :
    Spec Go.Proofs.Try.prog 50 [.val (pars a), .val (pars b)] (D.bool (decide (a = b))) := by
  refine spec_of' Go.Proofs.Try.func50 rfl Go.Proofs.Try.ntmps50 rfl ?_
  refine f_seq ?_
  refine f_wf (.tmp 0) rfl (fun hwf => ?_) (by simp)
  have hlen : a.length ≤ 140737488355328 := hwf.1
  clear hwf
  refine f_region ?_
  refine scons (CStep.step (PStep.c (p_assign (y := .val _) rfl (Sees.of rfl) rfl)) rfl rfl rfl rfl) ?_
  refine snil ?_
  refine f_seq ?_
  refine f_seq ?_
  refine f_region ?_
  refine scons (CStep.step (PStep.c (p_move (y := .val _) rfl (Sees.of rfl) rfl)) rfl rfl rfl rfl) ?_
  refine scons (CStep.step (PStep.c (p_len rfl wFind2_isl58 (Sees.of rfl))) rfl rfl rfl rfl) ?_
  refine scons (CStep.step (PStep.c (p_move (y := .val _) rfl (Sees.of rfl) rfl)) rfl rfl rfl rfl) ?_
  refine scons (CStep.step (PStep.c (p_len rfl wFind2_isl58 (Sees.of rfl))) rfl rfl rfl rfl) ?_
  refine scons (CStep.step (PStep.c (p_neq rfl (Sees.of rfl) (Sees.of rfl))) rfl rfl rfl rfl) ?_
  refine snil ?_
  refine f_cond rfl ?_ ?_
  · intro hc1
    try simp only [bs] at hc1
    refine f_seq ?_
    refine f_region ?_
    refine scons (CStep.step (PStep.c (p_assign (y := .val _) rfl (Sees.of rfl) rfl)) rfl rfl rfl rfl) ?_
    refine snil ?_
    refine f_ret ?_
    refine ends_ret (res_eq (res1 rfl (res_tmp rfl (Sees.of rfl))) ?_)
    rw [decide_eq_false (fun h => hc1 (by rw [h]))]
  · intro hc1
    try simp only [bs] at hc1
    refine f_skip ?_
    refine f_seq ?_
    refine f_seq ?_
    refine f_region ?_
    refine scons (CStep.step (PStep.c (p_assign (y := .val _) rfl (Sees.of rfl) rfl)) rfl rfl rfl rfl) ?_
    refine snil ?_
    refine f_block ?_
    refine f_loop (α := Nat) (fun i => i ≤ a.length ∧ ∀ j, j < i → a.getD j ([], false) = b.getD j ([], false)) (fun i => [(5, iv i), (0, .val (pars a)), (1, .val (pars b))]) (fun i => a.length - i) 0 ?_ ?_ ?_
    · exact ⟨Nat.zero_le _, fun j hj => absurd hj (Nat.not_lt_zero _)⟩
    · exact le_ofL ⟨rfl, rfl, rfl, trivial⟩ rfl
    · rintro i ⟨hi, hp⟩
      refine f_seq ?_
      refine f_seq ?_
      refine f_region ?_
      refine scons (CStep.step (PStep.c (p_move (y := .val _) rfl (Sees.of rfl) rfl)) rfl rfl rfl rfl) ?_
      refine scons (CStep.step (PStep.c (p_move (y := .val _) rfl (Sees.of rfl) rfl)) rfl rfl rfl rfl) ?_
      refine scons (CStep.step (PStep.c (p_len rfl wFind2_isl58 (Sees.of rfl))) rfl rfl rfl rfl) ?_
      refine scons (CStep.step (PStep.c (p_lss rfl (Sees.of rfl) (Sees.of rfl))) rfl rfl rfl rfl) ?_
      refine snil ?_
      refine f_cond rfl ?_ ?_
      · intro hc2
        try simp only [bs] at hc2
        refine f_skip ?_
        refine f_seq ?_
        refine f_block ?_
        refine f_seq ?_
        refine f_draw wFind2_mix (by kernel_rfl) ?_
        refine dcons (CStep.step (PStep.c (p_move (y := .val _) rfl (Sees.of rfl) rfl)) rfl rfl rfl rfl) ?_
        refine dcons (CStep.step (PStep.c (p_move (y := .val _) rfl (Sees.of rfl) rfl)) rfl rfl rfl rfl) ?_
        refine dcons (CStep.step (PStep.c ((by first | exact p_indexN rfl wFind2_isl58 wFind2_siz54 (Sees.of rfl) (Sees.of rfl) (by omega) | exact p_index rfl wFind2_isl58 wFind2_siz54 (Sees.of rfl) (Sees.of rfl) (by omega) (by omega)))) rfl rfl rfl rfl) ?_
        refine dcons (CStep.step (PStep.c (p_loadS rfl wFind2_agg54 wFind2_siz54 (Sees.of rfl) ⟨rfl, fun h => R_len rfl h⟩)) rfl rfl rfl rfl) ?_
        refine dcons (CStep.step (PStep.c (p_move (y := .val _) rfl (Sees.of rfl) rfl)) rfl rfl rfl rfl) ?_
        refine dcons (CStep.step (PStep.c (p_move (y := .val _) rfl (Sees.of rfl) rfl)) rfl rfl rfl rfl) ?_
        refine dcons (CStep.step (PStep.c ((by first | exact p_indexN rfl wFind2_isl58 wFind2_siz54 (Sees.of rfl) (Sees.of rfl) (by omega) | exact p_index rfl wFind2_isl58 wFind2_siz54 (Sees.of rfl) (Sees.of rfl) (by omega) (by omega)))) rfl rfl rfl rfl) ?_
        refine dcons (CStep.step (PStep.c (p_loadS rfl wFind2_agg54 wFind2_siz54 (Sees.of rfl) ⟨rfl, fun h => R_len rfl h⟩)) rfl rfl rfl rfl) ?_
        refine dcons (CStep.step (c_call rfl wFind2_isf55 ⟨_, _, rfl, (Sees.of rfl), rfl, ⟨_, _, rfl, (Sees.of rfl), rfl, rfl⟩⟩ (parSameN_spec _ _)) rfl rfl rfl rfl) ?_
        refine dcons (CStep.step (PStep.c (p_not rfl (Sees.of rfl))) rfl rfl rfl rfl) ?_
        refine dnil (by kernel_rfl) ?_
        refine f_cond rfl ?_ ?_
        · intro hc3
          try simp only [bs] at hc3
          refine f_seq ?_
          refine f_region ?_
          refine scons (CStep.step (PStep.c (p_assign (y := .val _) rfl (Sees.of rfl) rfl)) rfl rfl rfl rfl) ?_
          refine snil ?_
          refine f_ret ?_
          refine ends_ret (res_eq (res1 rfl (res_tmp rfl (Sees.of rfl))) ?_)
          rw [decide_eq_false (fun h => by rw [h] at hc3; simp at hc3)]
        · intro hc3
          try simp only [bs] at hc3
          refine f_skip ?_
          refine f_nil ?_
          show AWs _ _ _ _ _
          refine f_region ?_
          refine scons (CStep.step (PStep.c (p_move (y := .val _) rfl (Sees.of rfl) rfl)) rfl rfl rfl rfl) ?_
          refine scons (CStep.step (PStep.c (p_add rfl (Sees.of rfl) (Sees.of rfl) (by omega))) rfl rfl rfl rfl) ?_
          refine scons (CStep.step (PStep.c (p_assign (y := .val _) rfl (Sees.of rfl) rfl)) rfl rfl rfl rfl) ?_
          refine snil ?_
          refine f_back ⟨i + 1, ?_, ?_, le_ofL ⟨rfl, rfl, rfl, trivial⟩ rfl⟩
          · refine ⟨by omega, fun j hj => ?_⟩
            by_cases e : j = i
            · rw [e]; simpa using hc3
            · exact hp j (by omega)
          · omega
      · intro hc2
        try simp only [bs] at hc2
        refine f_exit ?_
        show AWs _ _ _ _ _
        refine f_seq ?_
        refine f_region ?_
        refine scons (CStep.step (PStep.c (p_assign (y := .val _) rfl (Sees.of rfl) rfl)) rfl rfl rfl rfl) ?_
        refine snil ?_
        refine f_ret ?_
        refine ends_ret (res_eq (res1 rfl (res_tmp rfl (Sees.of rfl))) ?_)
        rw [decide_eq_true (Sp.lists_eq (by omega) (fun j hj => hp j (by omega)))]

theorem allIn_spec (l c : List (List Int)) :
    Spec Go.Proofs.Try.prog 110 [.val (intss l), .val (intss c)] (D.bool (l.all fun x => decide (x ∈ c))) := by
  refine spec_of' Go.Proofs.Try.func110 rfl Go.Proofs.Try.ntmps110 rfl ?_
  refine f_seq ?_
  refine f_wf (.tmp 0) rfl (fun hwf => ?_) (by simp)
  have hlen : l.length ≤ 140737488355328 := hwf.1
  clear hwf
  refine f_wf (.tmp 1) rfl (fun hwf => ?_) (by simp)
  have hlenc : c.length ≤ 140737488355328 := hwf.1
  clear hwf
  refine f_region ?_
  refine scons (CStep.step (PStep.c (p_assign (y := .val _) rfl (Sees.of rfl) rfl)) rfl rfl rfl rfl) ?_
  refine snil ?_
  refine f_seq ?_
  refine f_seq ?_
  refine f_region ?_
  refine scons (CStep.step (PStep.c (p_assign (y := .val _) rfl (Sees.of rfl) rfl)) rfl rfl rfl rfl) ?_
  refine snil ?_
  refine f_block ?_
  refine f_loop (α := Nat) (fun i => i ≤ l.length ∧ ∀ y ∈ l.take i, decide (y ∈ c) = true) (fun i => [(5, iv i), (0, .val (intss l)), (1, .val (intss c))]) (fun i => l.length - i) 0 ?_ ?_ ?_
  · exact ⟨Nat.zero_le _, by simp⟩
  · exact le_ofL ⟨rfl, rfl, rfl, trivial⟩ rfl
  · rintro i ⟨hi, hp⟩
    refine f_seq ?_
    refine f_seq ?_
    refine f_region ?_
    refine scons (CStep.step (PStep.c (p_move (y := .val _) rfl (Sees.of rfl) rfl)) rfl rfl rfl rfl) ?_
    refine scons (CStep.step (PStep.c (p_move (y := .val _) rfl (Sees.of rfl) rfl)) rfl rfl rfl rfl) ?_
    refine scons (CStep.step (PStep.c (p_len rfl wFind2_isl22 (Sees.of rfl))) rfl rfl rfl rfl) ?_
    refine scons (CStep.step (PStep.c (p_lss rfl (Sees.of rfl) (Sees.of rfl))) rfl rfl rfl rfl) ?_
    refine snil ?_
    refine f_cond rfl ?_ ?_
    · intro hc1
      try simp only [bs] at hc1
      refine f_skip ?_
      refine f_seq ?_
      refine f_block ?_
      refine f_seq ?_
      refine f_region ?_
      refine scons (CStep.step (PStep.c (p_assign (y := .val _) rfl (Sees.of rfl) rfl)) rfl rfl rfl rfl) ?_
      refine snil ?_
      refine f_seq ?_
      refine f_seq ?_
      refine f_region ?_
      refine scons (CStep.step (PStep.c (p_assign (y := .val _) rfl (Sees.of rfl) rfl)) rfl rfl rfl rfl) ?_
      refine snil ?_
      refine f_block ?_
      refine f_loop (α := Nat) (fun j => j ≤ c.length) (fun j => [(7, iv j), (6, bv (decide (l.getD i [] ∈ c.take j))), (5, iv i), (0, .val (intss l)), (1, .val (intss c))]) (fun j => c.length - j) 0 ?_ ?_ ?_
      · exact Nat.zero_le _
      · exact le_ofL ⟨rfl, (by simp; rfl), rfl, rfl, rfl, trivial⟩ rfl
      · rintro j hj
        refine f_seq ?_
        refine f_seq ?_
        refine f_region ?_
        refine scons (CStep.step (PStep.c (p_move (y := .val _) rfl (Sees.of rfl) rfl)) rfl rfl rfl rfl) ?_
        refine scons (CStep.step (PStep.c (p_move (y := .val _) rfl (Sees.of rfl) rfl)) rfl rfl rfl rfl) ?_
        refine scons (CStep.step (PStep.c (p_len rfl wFind2_isl22 (Sees.of rfl))) rfl rfl rfl rfl) ?_
        refine scons (CStep.step (PStep.c (p_lss rfl (Sees.of rfl) (Sees.of rfl))) rfl rfl rfl rfl) ?_
        refine snil ?_
        refine f_cond rfl ?_ ?_
        · intro hc2
          try simp only [bs] at hc2
          refine f_skip ?_
          refine f_seq ?_
          refine f_block ?_
          refine f_draw wFind2_mix (by kernel_rfl) ?_
          refine dcons (CStep.step (PStep.c (p_move (y := .val _) rfl (Sees.of rfl) rfl)) rfl rfl rfl rfl) ?_
          refine dcons (CStep.step (PStep.c (p_move (y := .val _) rfl (Sees.of rfl) rfl)) rfl rfl rfl rfl) ?_
          refine dcons (CStep.guard rfl rfl rfl (fun hg0 => PStep.c (p_move (y := .val _) rfl (Sees.of rfl) rfl)) rfl rfl rfl rfl rfl) ?_
          refine dcons (CStep.guard rfl rfl rfl (fun hg0 => PStep.c (p_move (y := .val _) rfl (Sees.of rfl) rfl)) rfl rfl rfl rfl rfl) ?_
          refine dcons (CStep.guard rfl rfl rfl (fun hg0 => by have hp0 := hg0; (try simp only [bs] at hp0); exact PStep.c ((by first | exact p_indexN rfl wFind2_isl22 wFind2_siz25 (Sees.gv' rfl hg0) (Sees.gv' rfl hg0) (by omega) | exact p_index rfl wFind2_isl22 wFind2_siz25 (Sees.gv' rfl hg0) (Sees.gv' rfl hg0) (by omega) (by omega)))) rfl rfl rfl rfl rfl) ?_
          refine dcons (CStep.guard rfl rfl rfl (fun hg0 => PStep.c (p_load rfl wFind2_agg25 (Sees.gv' rfl hg0) rfl)) rfl rfl rfl rfl rfl) ?_
          refine dcons (CStep.guard rfl rfl rfl (fun hg0 => PStep.c (p_move (y := .val _) rfl (Sees.of rfl) rfl)) rfl rfl rfl rfl rfl) ?_
          refine dcons (CStep.guard rfl rfl rfl (fun hg0 => PStep.c (p_move (y := .val _) rfl (Sees.of rfl) rfl)) rfl rfl rfl rfl rfl) ?_
          refine dcons (CStep.guard rfl rfl rfl (fun hg0 => by have hp0 := hg0; (try simp only [bs] at hp0); exact PStep.c ((by first | exact p_indexN rfl wFind2_isl22 wFind2_siz25 (Sees.gv' rfl hg0) (Sees.gv' rfl hg0) (by omega) | exact p_index rfl wFind2_isl22 wFind2_siz25 (Sees.gv' rfl hg0) (Sees.gv' rfl hg0) (by omega) (by omega)))) rfl rfl rfl rfl rfl) ?_
          refine dcons (CStep.guard rfl rfl rfl (fun hg0 => PStep.c (p_load rfl wFind2_agg25 (Sees.gv' rfl hg0) rfl)) rfl rfl rfl rfl rfl) ?_
          refine dcons (CStep.guard rfl rfl rfl (fun hg0 => c_call rfl wFind2_isf40 ⟨_, _, rfl, (Sees.gv' rfl hg0), rfl, ⟨_, _, rfl, (Sees.gv' rfl hg0), rfl, rfl⟩⟩ (sameN_spec _ _)) rfl rfl rfl rfl rfl) ?_
          refine dcons (CStep.step (PStep.c (p_or rfl (Sees.of rfl) (Sees.of rfl) (fun h => Sees.gv' rfl (beq_of_eq h)))) rfl rfl rfl rfl) ?_
          refine dcons (CStep.step (PStep.c (p_assign (y := .val _) rfl (Sees.of rfl) rfl)) rfl rfl rfl rfl) ?_
          refine dnil (by kernel_rfl) ?_
          refine f_nil ?_
          show AWs _ _ _ _ _
          refine f_region ?_
          refine scons (CStep.step (PStep.c (p_move (y := .val _) rfl (Sees.of rfl) rfl)) rfl rfl rfl rfl) ?_
          refine scons (CStep.step (PStep.c (p_add rfl (Sees.of rfl) (Sees.of rfl) (by omega))) rfl rfl rfl rfl) ?_
          refine scons (CStep.step (PStep.c (p_assign (y := .val _) rfl (Sees.of rfl) rfl)) rfl rfl rfl rfl) ?_
          refine snil ?_
          refine f_back ⟨j + 1, ?_, ?_, le_ofL ⟨rfl, (by rw [Sp.take_getD c j [] (by omega)]; simp only [List.mem_append, List.mem_singleton]; rw [Bool.decide_or]; rfl), rfl, rfl, rfl, trivial⟩ rfl⟩
          · omega
          · omega
        · intro hc2
          try simp only [bs] at hc2
          refine f_exit ?_
          show AWs _ _ _ _ _
          refine f_seq ?_
          refine f_region ?_
          refine scons (CStep.step (PStep.c (p_move (y := .val _) rfl (Sees.of rfl) rfl)) rfl rfl rfl rfl) ?_
          refine scons (CStep.step (PStep.c (p_not rfl (Sees.of rfl))) rfl rfl rfl rfl) ?_
          refine snil ?_
          refine f_cond rfl ?_ ?_
          · intro hc3
            try simp only [bs] at hc3
            refine f_seq ?_
            refine f_region ?_
            refine scons (CStep.step (PStep.c (p_assign (y := .val _) rfl (Sees.of rfl) rfl)) rfl rfl rfl rfl) ?_
            refine snil ?_
            refine f_ret ?_
            refine ends_ret (res_eq (res1 rfl (res_tmp rfl (Sees.of rfl))) ?_)
            rw [Sp.all_not (z := []) (l := l) (i := i) (by omega) (by rw [List.take_of_length_le (l := c) (by omega)] at hc3; exact decide_eq_false hc3)]
          · intro hc3
            try simp only [bs] at hc3
            refine f_skip ?_
            refine f_nil ?_
            show AWs _ _ _ _ _
            refine f_region ?_
            refine scons (CStep.step (PStep.c (p_move (y := .val _) rfl (Sees.of rfl) rfl)) rfl rfl rfl rfl) ?_
            refine scons (CStep.step (PStep.c (p_add rfl (Sees.of rfl) (Sees.of rfl) (by omega))) rfl rfl rfl rfl) ?_
            refine scons (CStep.step (PStep.c (p_assign (y := .val _) rfl (Sees.of rfl) rfl)) rfl rfl rfl rfl) ?_
            refine snil ?_
            refine f_back ⟨i + 1, ?_, ?_, le_ofL ⟨rfl, rfl, rfl, trivial⟩ rfl⟩
            · exact ⟨by omega, Sp.step_all (by omega) hp (by rw [List.take_of_length_le (l := c) (by omega)] at hc3; simpa using hc3)⟩
            · omega
    · intro hc1
      try simp only [bs] at hc1
      refine f_exit ?_
      show AWs _ _ _ _ _
      refine f_seq ?_
      refine f_region ?_
      refine scons (CStep.step (PStep.c (p_assign (y := .val _) rfl (Sees.of rfl) rfl)) rfl rfl rfl rfl) ?_
      refine snil ?_
      refine f_ret ?_
      refine ends_ret (res_eq (res1 rfl (res_tmp rfl (Sees.of rfl))) ?_)
      rw [Sp.all_end (by omega) hp]

theorem parAhead_spec (a b : List Int × Bool) :
    Spec Go.Proofs.Try.prog 111 [.val (dPar a), .val (dPar b)] (D.bool (Sp.parLt a b)) := by
  refine spec_of' Go.Proofs.Try.func111 rfl Go.Proofs.Try.ntmps111 rfl ?_
  refine f_seq ?_
  refine f_wf (.tmp 0) rfl (fun hwf => ?_) (by simp)
  have hlen : a.1.length ≤ 140737488355328 := hwf.1.1
  clear hwf
  refine f_region ?_
  refine scons (r_box (ob := 10002) rfl (Sees.of rfl) rfl rfl rfl rfl rfl rfl) ?_
  refine scons (r_box (ob := 10003) rfl (Sees.of rfl) rfl rfl rfl rfl rfl rfl) ?_
  refine scons (CStep.step (PStep.c (p_assign (y := .val _) rfl (Sees.of rfl) rfl)) rfl rfl rfl rfl) ?_
  refine snil ?_
  refine f_seq ?_
  refine f_seq ?_
  refine f_region ?_
  refine scons (CStep.step (PStep.c (p_assign (y := .val _) rfl (Sees.of rfl) rfl)) rfl rfl rfl rfl) ?_
  refine snil ?_
  refine f_block ?_
  refine f_loop (α := Nat) (fun i => i ≤ a.1.length ∧ i ≤ b.1.length ∧ ∀ j, j < i → a.1.getD j 0 = b.1.getD j 0) (fun i => [(5, iv i), (2, .ref 10002 0 0), (3, .ref 10003 0 0), (10002, .box 0 (.ccons (.val (ints a.1)) (.ccons (bv a.2) .cnil))), (10003, .box 0 (.ccons (.val (ints b.1)) (.ccons (bv b.2) .cnil)))]) (fun i => a.1.length - i) 0 ?_ ?_ ?_
  · exact ⟨Nat.zero_le _, Nat.zero_le _, fun j hj => absurd hj (Nat.not_lt_zero _)⟩
  · exact le_ofL ⟨rfl, rfl, rfl, rfl, rfl, trivial⟩ rfl
  · rintro i ⟨hi, hb2, hp⟩
    refine f_seq ?_
    refine f_seq ?_
    refine f_region ?_
    refine scons (CStep.step (PStep.c (p_move (y := .val _) rfl (Sees.of rfl) rfl)) rfl rfl rfl rfl) ?_
    refine scons (CStep.step (PStep.c (p_fieldRef rfl wFind2_fld54_0 wFind2_siz25 rfl (Sees.of rfl) rfl)) rfl rfl rfl rfl) ?_
    refine scons (CStep.step (PStep.c (p_loadB (y := .val _) rfl wFind2_agg25 (Sees.of rfl) rfl rfl rfl rfl)) rfl rfl rfl rfl) ?_
    refine scons (CStep.step (PStep.c (p_len rfl wFind2_isl25 (Sees.of rfl))) rfl rfl rfl rfl) ?_
    refine scons (CStep.step (PStep.c (p_lss rfl (Sees.of rfl) (Sees.of rfl))) rfl rfl rfl rfl) ?_
    refine scons (CStep.step (PStep.c (p_move (y := .val _) rfl (Sees.of rfl) rfl)) rfl rfl rfl rfl) ?_
    refine scons (CStep.guard rfl rfl rfl (fun hg0 => PStep.c (p_move (y := .val _) rfl (Sees.of rfl) rfl)) rfl rfl rfl rfl rfl) ?_
    refine scons (CStep.guard rfl rfl rfl (fun hg0 => PStep.c (p_fieldRef rfl wFind2_fld54_0 wFind2_siz25 rfl (Sees.of rfl) rfl)) rfl rfl rfl rfl rfl) ?_
    refine scons (CStep.guard rfl rfl rfl (fun hg0 => PStep.c (p_loadB (y := .val _) rfl wFind2_agg25 (Sees.gv' rfl hg0) rfl rfl rfl rfl)) rfl rfl rfl rfl rfl) ?_
    refine scons (CStep.guard rfl rfl rfl (fun hg0 => PStep.c (p_len rfl wFind2_isl25 (Sees.gv' rfl hg0))) rfl rfl rfl rfl rfl) ?_
    refine scons (CStep.guard rfl rfl rfl (fun hg0 => PStep.c (p_lss rfl (Sees.gv' rfl hg0) (Sees.gv' rfl hg0))) rfl rfl rfl rfl rfl) ?_
    refine scons (CStep.step (PStep.c (p_and rfl (Sees.of rfl) (fun h => Sees.gv' rfl (beq_of_eq h)) (Sees.of rfl))) rfl rfl rfl rfl) ?_
    refine snil ?_
    refine f_cond rfl ?_ ?_
    · intro hc1
      try simp only [bs] at hc1
      refine f_skip ?_
      refine f_seq ?_
      refine f_block ?_
      refine f_seq ?_
      refine f_draw wFind2_mix (by kernel_rfl) ?_
      refine dcons (CStep.step (PStep.c (p_fieldRef rfl wFind2_fld54_0 wFind2_siz25 rfl (Sees.of rfl) rfl)) rfl rfl rfl rfl) ?_
      refine dcons (CStep.step (PStep.c (p_loadB (y := .val _) rfl wFind2_agg25 (Sees.of rfl) rfl rfl rfl rfl)) rfl rfl rfl rfl) ?_
      refine dcons (CStep.step (PStep.c (p_move (y := .val _) rfl (Sees.of rfl) rfl)) rfl rfl rfl rfl) ?_
      refine dcons (CStep.step (PStep.c ((by first | exact p_indexN rfl wFind2_isl25 wFind2_siz3 (Sees.of rfl) (Sees.of rfl) (by omega) | exact p_index rfl wFind2_isl25 wFind2_siz3 (Sees.of rfl) (Sees.of rfl) (by omega) (by omega)))) rfl rfl rfl rfl) ?_
      refine dcons (CStep.step (PStep.c (p_load rfl wFind2_agg3 (Sees.of rfl) rfl)) rfl rfl rfl rfl) ?_
      refine dcons (CStep.step (PStep.c (p_fieldRef rfl wFind2_fld54_0 wFind2_siz25 rfl (Sees.of rfl) rfl)) rfl rfl rfl rfl) ?_
      refine dcons (CStep.step (PStep.c (p_loadB (y := .val _) rfl wFind2_agg25 (Sees.of rfl) rfl rfl rfl rfl)) rfl rfl rfl rfl) ?_
      refine dcons (CStep.step (PStep.c (p_move (y := .val _) rfl (Sees.of rfl) rfl)) rfl rfl rfl rfl) ?_
      refine dcons (CStep.step (PStep.c ((by first | exact p_indexN rfl wFind2_isl25 wFind2_siz3 (Sees.of rfl) (Sees.of rfl) (by omega) | exact p_index rfl wFind2_isl25 wFind2_siz3 (Sees.of rfl) (Sees.of rfl) (by omega) (by omega)))) rfl rfl rfl rfl) ?_
      refine dcons (CStep.step (PStep.c (p_load rfl wFind2_agg3 (Sees.of rfl) rfl)) rfl rfl rfl rfl) ?_
      refine dcons (CStep.step (PStep.c (p_neq rfl (Sees.of rfl) (Sees.of rfl))) rfl rfl rfl rfl) ?_
      refine dnil (by kernel_rfl) ?_
      refine f_cond rfl ?_ ?_
      · intro hc2
        try simp only [bs] at hc2
        refine f_seq ?_
        refine f_draw wFind2_mix (by kernel_rfl) ?_
        refine dcons (CStep.step (PStep.c (p_fieldRef rfl wFind2_fld54_0 wFind2_siz25 rfl (Sees.of rfl) rfl)) rfl rfl rfl rfl) ?_
        refine dcons (CStep.step (PStep.c (p_loadB (y := .val _) rfl wFind2_agg25 (Sees.of rfl) rfl rfl rfl rfl)) rfl rfl rfl rfl) ?_
        refine dcons (CStep.step (PStep.c (p_move (y := .val _) rfl (Sees.of rfl) rfl)) rfl rfl rfl rfl) ?_
        refine dcons (CStep.step (PStep.c ((by first | exact p_indexN rfl wFind2_isl25 wFind2_siz3 (Sees.of rfl) (Sees.of rfl) (by omega) | exact p_index rfl wFind2_isl25 wFind2_siz3 (Sees.of rfl) (Sees.of rfl) (by omega) (by omega)))) rfl rfl rfl rfl) ?_
        refine dcons (CStep.step (PStep.c (p_load rfl wFind2_agg3 (Sees.of rfl) rfl)) rfl rfl rfl rfl) ?_
        refine dcons (CStep.step (PStep.c (p_fieldRef rfl wFind2_fld54_0 wFind2_siz25 rfl (Sees.of rfl) rfl)) rfl rfl rfl rfl) ?_
        refine dcons (CStep.step (PStep.c (p_loadB (y := .val _) rfl wFind2_agg25 (Sees.of rfl) rfl rfl rfl rfl)) rfl rfl rfl rfl) ?_
        refine dcons (CStep.step (PStep.c (p_move (y := .val _) rfl (Sees.of rfl) rfl)) rfl rfl rfl rfl) ?_
        refine dcons (CStep.step (PStep.c ((by first | exact p_indexN rfl wFind2_isl25 wFind2_siz3 (Sees.of rfl) (Sees.of rfl) (by omega) | exact p_index rfl wFind2_isl25 wFind2_siz3 (Sees.of rfl) (Sees.of rfl) (by omega) (by omega)))) rfl rfl rfl rfl) ?_
        refine dcons (CStep.step (PStep.c (p_load rfl wFind2_agg3 (Sees.of rfl) rfl)) rfl rfl rfl rfl) ?_
        refine dcons (CStep.step (PStep.c (p_lss rfl (Sees.of rfl) (Sees.of rfl))) rfl rfl rfl rfl) ?_
        refine dcons (CStep.step (PStep.c (p_assign (y := .val _) rfl (Sees.of rfl) rfl)) rfl rfl rfl rfl) ?_
        refine dnil (by kernel_rfl) ?_
        refine f_ret ?_
        refine ends_ret (res_eq (res1 rfl (res_tmp rfl (Sees.of rfl))) ?_)
        rw [Sp.par_next (by omega) (by omega) hp hc2]
      · intro hc2
        try simp only [bs] at hc2
        refine f_skip ?_
        refine f_nil ?_
        show AWs _ _ _ _ _
        refine f_region ?_
        refine scons (CStep.step (PStep.c (p_move (y := .val _) rfl (Sees.of rfl) rfl)) rfl rfl rfl rfl) ?_
        refine scons (CStep.step (PStep.c (p_add rfl (Sees.of rfl) (Sees.of rfl) (by omega))) rfl rfl rfl rfl) ?_
        refine scons (CStep.step (PStep.c (p_assign (y := .val _) rfl (Sees.of rfl) rfl)) rfl rfl rfl rfl) ?_
        refine snil ?_
        refine f_back ⟨i + 1, ?_, ?_, le_ofL ⟨rfl, rfl, rfl, rfl, rfl, trivial⟩ rfl⟩
        · refine ⟨by omega, by omega, fun j hj => ?_⟩
          by_cases e : j = i
          · rw [e]; exact hc2
          · exact hp j (by omega)
        · omega
    · intro hc1
      try simp only [bs] at hc1
      refine f_exit ?_
      show AWs _ _ _ _ _
      refine f_seq ?_
      refine f_seq ?_
      refine f_region ?_
      refine scons (CStep.step (PStep.c (p_fieldRef rfl wFind2_fld54_0 wFind2_siz25 rfl (Sees.of rfl) rfl)) rfl rfl rfl rfl) ?_
      refine scons (CStep.step (PStep.c (p_loadB (y := .val _) rfl wFind2_agg25 (Sees.of rfl) rfl rfl rfl rfl)) rfl rfl rfl rfl) ?_
      refine scons (CStep.step (PStep.c (p_len rfl wFind2_isl25 (Sees.of rfl))) rfl rfl rfl rfl) ?_
      refine scons (CStep.step (PStep.c (p_fieldRef rfl wFind2_fld54_0 wFind2_siz25 rfl (Sees.of rfl) rfl)) rfl rfl rfl rfl) ?_
      refine scons (CStep.step (PStep.c (p_loadB (y := .val _) rfl wFind2_agg25 (Sees.of rfl) rfl rfl rfl rfl)) rfl rfl rfl rfl) ?_
      refine scons (CStep.step (PStep.c (p_len rfl wFind2_isl25 (Sees.of rfl))) rfl rfl rfl rfl) ?_
      refine scons (CStep.step (PStep.c (p_neq rfl (Sees.of rfl) (Sees.of rfl))) rfl rfl rfl rfl) ?_
      refine snil ?_
      refine f_cond rfl ?_ ?_
      · intro hc3
        try simp only [bs] at hc3
        refine f_seq ?_
        refine f_region ?_
        refine scons (CStep.step (PStep.c (p_fieldRef rfl wFind2_fld54_0 wFind2_siz25 rfl (Sees.of rfl) rfl)) rfl rfl rfl rfl) ?_
        refine scons (CStep.step (PStep.c (p_loadB (y := .val _) rfl wFind2_agg25 (Sees.of rfl) rfl rfl rfl rfl)) rfl rfl rfl rfl) ?_
        refine scons (CStep.step (PStep.c (p_len rfl wFind2_isl25 (Sees.of rfl))) rfl rfl rfl rfl) ?_
        refine scons (CStep.step (PStep.c (p_fieldRef rfl wFind2_fld54_0 wFind2_siz25 rfl (Sees.of rfl) rfl)) rfl rfl rfl rfl) ?_
        refine scons (CStep.step (PStep.c (p_loadB (y := .val _) rfl wFind2_agg25 (Sees.of rfl) rfl rfl rfl rfl)) rfl rfl rfl rfl) ?_
        refine scons (CStep.step (PStep.c (p_len rfl wFind2_isl25 (Sees.of rfl))) rfl rfl rfl rfl) ?_
        refine scons (CStep.step (PStep.c (p_lss rfl (Sees.of rfl) (Sees.of rfl))) rfl rfl rfl rfl) ?_
        refine scons (CStep.step (PStep.c (p_assign (y := .val _) rfl (Sees.of rfl) rfl)) rfl rfl rfl rfl) ?_
        refine snil ?_
        refine f_ret ?_
        refine ends_ret (res_eq (res1 rfl (res_tmp rfl (Sees.of rfl))) ?_)
        rw [Sp.par_short (by omega) (by omega) hp (by omega)]
        congr 1
        rw [Bool.eq_iff_iff]
        simp
      · intro hc3
        try simp only [bs] at hc3
        refine f_skip ?_
        refine f_seq ?_
        refine f_region ?_
        refine scons (CStep.step (PStep.c (p_fieldRef rfl wFind2_fld54_1 wFind2_siz4 rfl (Sees.of rfl) rfl)) rfl rfl rfl rfl) ?_
        refine scons (CStep.step (PStep.c (p_loadB (y := .val _) rfl wFind2_agg4 (Sees.of rfl) rfl rfl rfl rfl)) rfl rfl rfl rfl) ?_
        refine scons (CStep.step (PStep.c (p_not rfl (Sees.of rfl))) rfl rfl rfl rfl) ?_
        refine scons (CStep.step (PStep.c (p_move (y := .val _) rfl (Sees.of rfl) rfl)) rfl rfl rfl rfl) ?_
        refine scons (CStep.guard rfl rfl rfl (fun hg0 => PStep.c (p_fieldRef rfl wFind2_fld54_1 wFind2_siz4 rfl (Sees.of rfl) rfl)) rfl rfl rfl rfl rfl) ?_
        refine scons (CStep.guard rfl rfl rfl (fun hg0 => PStep.c (p_loadB (y := .val _) rfl wFind2_agg4 (Sees.gv' rfl hg0) rfl rfl rfl rfl)) rfl rfl rfl rfl rfl) ?_
        refine scons (CStep.step (PStep.c (p_and rfl (Sees.of rfl) (fun h => Sees.gv' rfl (beq_of_eq h)) (Sees.of rfl))) rfl rfl rfl rfl) ?_
        refine scons (CStep.step (PStep.c (p_assign (y := .val _) rfl (Sees.of rfl) rfl)) rfl rfl rfl rfl) ?_
        refine snil ?_
        refine f_ret ?_
        refine ends_ret (res_eq (res1 rfl (res_tmp rfl (Sees.of rfl))) ?_)
        rw [Sp.par_same (by omega) (by omega) hp (by omega)]

set_option maxHeartbeats 2000000 in
theorem findR_spec (n : Int) (ls : List (List Int)) (hck : (Sp.check n ls).1 = 0) :
    Spec Go.Proofs.Try.prog 51 [.val (cnf n ls)] (pars (Sp.findP ls)) := by
  refine spec_of' Go.Proofs.Try.func51 rfl Go.Proofs.Try.ntmps51 rfl ?_
  refine f_seq ?_
  have hko := Sp.check_ok hck
  have hll : ls.length ≤ 400 := hko.2.1
  have hl : ∀ l ∈ ls, l.length ≤ 1000000 ∧ ∀ x ∈ l, -9223372036854775808 < x ∧ x ≤ 9223372036854775807 := fun l h => ⟨by have := (hko.2.2 l h).1; omega, fun x hx => by have := Sp.wrong_ok (hko.2.2 l h).2 x hx; omega⟩
  have hnl := Sp.nrm_len ls
  have hnx : ∀ l ∈ (Sp.nrm ls), l.length ≤ 24 ∧ ∀ x ∈ l, x ≠ 0 ∧ -120 ≤ x ∧ x ≤ 120 := fun l hm => by
    obtain ⟨c, h1, rfl⟩ := Sp.nrm_elem hm
    refine ⟨by rw [Sp.litSort_len]; exact (hko.2.2 c h1).1, fun x hx => ?_⟩
    have := Sp.wrong_ok (hko.2.2 c h1).2 x (Sp.litSort_mem.1 hx)
    omega
  refine f_region ?_
  refine scons (r_box (ob := 10001) rfl (Sees.of rfl) rfl rfl rfl rfl rfl rfl) ?_
  refine scons (CStep.step (PStep.c (p_assign (y := .emp) rfl (Sees.of rfl) rfl)) rfl rfl rfl rfl) ?_
  refine snil ?_
  refine f_seq ?_
  refine f_region ?_
  refine scons (CStep.step (PStep.c (p_fieldRef rfl wFind2_fld24_1 wFind2_siz22 rfl (Sees.of rfl) rfl)) rfl rfl rfl rfl) ?_
  refine scons (CStep.step (PStep.c (p_loadB (y := .val _) rfl wFind2_agg22 (Sees.of rfl) rfl rfl rfl rfl)) rfl rfl rfl rfl) ?_
  refine scons (CStep.step (c_call rfl wFind2_isf81 ⟨_, _, rfl, (Sees.of rfl), rfl, rfl⟩ (normalR_spec ls (by omega) hl)) rfl rfl rfl rfl) ?_
  refine scons (CStep.step (PStep.c (p_assign (y := .val _) rfl (Sees.of rfl) rfl)) rfl rfl rfl rfl) ?_
  refine snil ?_
  refine f_seq ?_
  refine f_region ?_
  refine scons (CStep.step (PStep.c (p_assign (y := .emp) rfl (Sees.of rfl) rfl)) rfl rfl rfl rfl) ?_
  refine snil ?_
  refine f_seq ?_
  refine f_seq ?_
  refine f_region ?_
  refine scons (CStep.step (PStep.c (p_assign (y := .val _) rfl (Sees.of rfl) rfl)) rfl rfl rfl rfl) ?_
  refine snil ?_
  refine f_block ?_
  refine f_loop (α := Nat) (fun i => i ≤ (Sp.nrm ls).length) (fun i => [(5, iv i), (4, .val (pars (Sp.nubP (Sp.candTo ls i)))), (3, .val (intss (Sp.nrm ls))), (2, .emp)]) (fun i => (Sp.nrm ls).length - i) 0 ?_ ?_ ?_
  · exact Nat.zero_le _
  · exact Le.trans (le_empty (k := 4) 2 dPar ([], false) rfl rfl) (le_ofL ⟨rfl, (by rw [show Sp.candTo ls 0 = [] from by simp [Sp.candTo], Sp.nubP_nil]; rfl), rfl, rfl, trivial⟩ rfl)
  · rintro i hi
    refine f_seq ?_
    refine f_seq ?_
    refine f_region ?_
    refine scons (CStep.step (PStep.c (p_move (y := .val _) rfl (Sees.of rfl) rfl)) rfl rfl rfl rfl) ?_
    refine scons (CStep.step (PStep.c (p_move (y := .val _) rfl (Sees.of rfl) rfl)) rfl rfl rfl rfl) ?_
    refine scons (CStep.step (PStep.c (p_len rfl wFind2_isl22 (Sees.of rfl))) rfl rfl rfl rfl) ?_
    refine scons (CStep.step (PStep.c (p_lss rfl (Sees.of rfl) (Sees.of rfl))) rfl rfl rfl rfl) ?_
    refine snil ?_
    refine f_cond rfl ?_ ?_
    · intro hc1
      try simp only [bs] at hc1
      refine f_skip ?_
      refine f_seq ?_
      refine f_block ?_
      refine f_seq ?_
      refine f_seq ?_
      have hx0 := hnx _ (Sp.getD_mem (Sp.nrm ls) i [] (by omega))
      refine f_region ?_
      refine scons (CStep.step (PStep.c (p_move (y := .val _) rfl (Sees.of rfl) rfl)) rfl rfl rfl rfl) ?_
      refine scons (CStep.step (PStep.c (p_move (y := .val _) rfl (Sees.of rfl) rfl)) rfl rfl rfl rfl) ?_
      refine scons (CStep.step (PStep.c ((by first | exact p_indexN rfl wFind2_isl22 wFind2_siz25 (Sees.of rfl) (Sees.of rfl) (by omega) | exact p_index rfl wFind2_isl22 wFind2_siz25 (Sees.of rfl) (Sees.of rfl) (by omega) (by omega)))) rfl rfl rfl rfl) ?_
      refine scons (CStep.step (PStep.c (p_load rfl wFind2_agg25 (Sees.of rfl) rfl)) rfl rfl rfl rfl) ?_
      refine scons (CStep.step (PStep.c (p_len rfl wFind2_isl25 (Sees.of rfl))) rfl rfl rfl rfl) ?_
      refine scons (CStep.step (PStep.c (p_lss rfl (Sees.of rfl) (Sees.of rfl))) rfl rfl rfl rfl) ?_
      refine scons (CStep.step (PStep.c (p_move (y := .val _) rfl (Sees.of rfl) rfl)) rfl rfl rfl rfl) ?_
      refine scons (CStep.guard rfl rfl rfl (fun hg0 => PStep.c (p_move (y := .val _) rfl (Sees.of rfl) rfl)) rfl rfl rfl rfl rfl) ?_
      refine scons (CStep.guard rfl rfl rfl (fun hg0 => PStep.c (p_move (y := .val _) rfl (Sees.of rfl) rfl)) rfl rfl rfl rfl rfl) ?_
      refine scons (CStep.guard rfl rfl rfl (fun hg0 => by have hp0 := hg0; (try simp only [bs] at hp0); exact PStep.c ((by first | exact p_indexN rfl wFind2_isl22 wFind2_siz25 (Sees.gv' rfl hg0) (Sees.gv' rfl hg0) (by omega) | exact p_index rfl wFind2_isl22 wFind2_siz25 (Sees.gv' rfl hg0) (Sees.gv' rfl hg0) (by omega) (by omega)))) rfl rfl rfl rfl rfl) ?_
      refine scons (CStep.guard rfl rfl rfl (fun hg0 => PStep.c (p_load rfl wFind2_agg25 (Sees.gv' rfl hg0) rfl)) rfl rfl rfl rfl rfl) ?_
      refine scons (CStep.guard rfl rfl rfl (fun hg0 => PStep.c (p_len rfl wFind2_isl25 (Sees.gv' rfl hg0))) rfl rfl rfl rfl rfl) ?_
      refine scons (CStep.guard rfl rfl rfl (fun hg0 => PStep.c (p_gtr rfl (Sees.gv' rfl hg0) (Sees.of rfl))) rfl rfl rfl rfl rfl) ?_
      refine scons (CStep.step (PStep.c (p_or rfl (Sees.of rfl) (Sees.of rfl) (fun h => Sees.gv' rfl (beq_of_eq h)))) rfl rfl rfl rfl) ?_
      refine snil ?_
      refine f_cond rfl ?_ ?_
      · intro hc2
        try simp only [bs] at hc2
        refine f_exit ?_
        show AWs _ _ _ _ _
        refine f_region ?_
        refine scons (CStep.step (PStep.c (p_move (y := .val _) rfl (Sees.of rfl) rfl)) rfl rfl rfl rfl) ?_
        refine scons (CStep.step (PStep.c (p_add rfl (Sees.of rfl) (Sees.of rfl) (by omega))) rfl rfl rfl rfl) ?_
        refine scons (CStep.step (PStep.c (p_assign (y := .val _) rfl (Sees.of rfl) rfl)) rfl rfl rfl rfl) ?_
        refine snil ?_
        refine f_back ⟨i + 1, ?_, ?_, le_ofL ⟨rfl, (by rw [Sp.candTo_succ (by omega), Sp.cand_bad (by omega), List.append_nil]; rfl), rfl, rfl, trivial⟩ rfl⟩
        · omega
        · omega
      · intro hc2
        try simp only [bs] at hc2
        refine f_skip ?_
        refine f_seq ?_
        refine f_region ?_
        refine scons (CStep.step (PStep.c (p_assign (y := .val _) rfl (Sees.of rfl) rfl)) rfl rfl rfl rfl) ?_
        refine snil ?_
        refine f_block ?_
        refine f_loop (α := Nat) (fun k => k ≤ 2) (fun k => [(5, iv i), (6, iv k), (4, .val (pars (Sp.nubP (Sp.candTo ls i ++ Sp.cand ls ((Sp.nrm ls).getD i []) k)))), (3, .val (intss (Sp.nrm ls))), (2, .emp)]) (fun k => 2 - k) 0 ?_ ?_ ?_
        · exact Nat.zero_le _
        · exact le_ofL ⟨rfl, rfl, (by rw [Sp.cand_zero, List.append_nil]; rfl), rfl, rfl, trivial⟩ rfl
        · rintro k hk
          refine f_seq ?_
          refine f_seq ?_
          refine f_region ?_
          refine scons (CStep.step (PStep.c (p_move (y := .val _) rfl (Sees.of rfl) rfl)) rfl rfl rfl rfl) ?_
          refine scons (CStep.step (PStep.c (p_lss rfl (Sees.of rfl) (Sees.of rfl))) rfl rfl rfl rfl) ?_
          refine snil ?_
          refine f_cond rfl ?_ ?_
          · intro hc3
            try simp only [bs] at hc3
            refine f_skip ?_
            refine f_seq ?_
            refine f_block ?_
            refine f_seq ?_
            have ho : decide ((k : Int) = 1) = [false, true].getD k false := by
              rcases (show k = 0 ∨ k = 1 by omega) with rfl | rfl <;> rfl
            refine f_region ?_
            refine scons (CStep.step (PStep.c (p_move (y := .val _) rfl (Sees.of rfl) rfl)) rfl rfl rfl rfl) ?_
            refine scons (CStep.step (PStep.c (p_eql rfl (Sees.of rfl) (Sees.of rfl))) rfl rfl rfl rfl) ?_
            refine scons (CStep.step (PStep.c (p_buildV rfl wFind2_plc54 wFind2_zer54 rfl rfl ⟨_, _, _, _, _, rfl, rfl, rfl, (Sees.of rfl), (oneAt_val rfl), ⟨rfl, rfl⟩⟩ rfl)) rfl rfl rfl rfl) ?_
            refine scons (r_alloc (ob := 10007) rfl wFind2_zer54 rfl rfl rfl rfl rfl rfl) ?_
            refine scons (r_storeV rfl wFind2_siz54 rfl rfl rfl (Sees.of rfl) rfl (Sees.of rfl) rfl rfl rfl rfl) ?_
            refine snil ?_
            rw [ho]
            refine f_seq ?_
            refine f_seq ?_
            refine f_region ?_
            refine scons (CStep.step (PStep.c (p_assign (y := .val _) rfl (Sees.of rfl) rfl)) rfl rfl rfl rfl) ?_
            refine snil ?_
            refine f_block ?_
            refine f_loop (α := Nat × Nat) (fun (j, w) => j ≤ ((Sp.nrm ls).getD i []).length) (fun (j, w) => [(8, iv j), (7, .ref 10007 0 0), (10007, .box 0 (.ccons (.row 30000 w) (.ccons (bv ([false, true].getD k false)) .cnil))), (30000, .arr w 3 1 8 di 0 ((((Sp.nrm ls).getD i []).take j).map Sp.av)), (5, iv i), (6, iv k), (4, .val (pars (Sp.nubP (Sp.candTo ls i ++ Sp.cand ls ((Sp.nrm ls).getD i []) k)))), (3, .val (intss (Sp.nrm ls))), (2, .emp)]) (fun (j, w) => ((Sp.nrm ls).getD i []).length - j) (0, 0) ?_ ?_ ?_
            · exact Nat.zero_le _
            · exact Le.trans (GLe.le (g_adoptB (ob := 10007) (off := 0) (o1 := 30000) 3 1 8 di 0 rfl rfl rfl rfl rfl rfl rfl)) (le_ofL ⟨rfl, rfl, rfl, rfl, rfl, rfl, rfl, rfl, rfl, trivial⟩ rfl)
            · rintro ⟨j, w⟩ hj
              have hj : j ≤ ((Sp.nrm ls).getD i []).length := hj
              refine f_seq ?_
              refine f_seq ?_
              refine f_region ?_
              refine scons (CStep.step (PStep.c (p_move (y := .val _) rfl (Sees.of rfl) rfl)) rfl rfl rfl rfl) ?_
              refine scons (CStep.step (PStep.c (p_move (y := .val _) rfl (Sees.of rfl) rfl)) rfl rfl rfl rfl) ?_
              refine scons (CStep.step (PStep.c (p_move (y := .val _) rfl (Sees.of rfl) rfl)) rfl rfl rfl rfl) ?_
              refine scons (CStep.step (PStep.c ((by first | exact p_indexN rfl wFind2_isl22 wFind2_siz25 (Sees.of rfl) (Sees.of rfl) (by omega) | exact p_index rfl wFind2_isl22 wFind2_siz25 (Sees.of rfl) (Sees.of rfl) (by omega) (by omega)))) rfl rfl rfl rfl) ?_
              refine scons (CStep.step (PStep.c (p_load rfl wFind2_agg25 (Sees.of rfl) rfl)) rfl rfl rfl rfl) ?_
              refine scons (CStep.step (PStep.c (p_len rfl wFind2_isl25 (Sees.of rfl))) rfl rfl rfl rfl) ?_
              refine scons (CStep.step (PStep.c (p_lss rfl (Sees.of rfl) (Sees.of rfl))) rfl rfl rfl rfl) ?_
              refine snil ?_
              refine f_cond rfl ?_ ?_
              · intro hc4
                try simp only [bs] at hc4
                refine f_skip ?_
                refine f_seq ?_
                refine f_block ?_
                have hx1 := hx0.2 _ (Sp.getD_mem ((Sp.nrm ls).getD i []) j 0 (by omega))
                refine f_draw wFind2_mix (by kernel_rfl) ?_
                refine dcons (CStep.step (PStep.c (p_fieldRef rfl wFind2_fld54_0 wFind2_siz25 rfl (Sees.of rfl) rfl)) rfl rfl rfl rfl) ?_
                refine dcons (CStep.step (PStep.c (p_loadB (y := .row _ _) rfl wFind2_agg25 (Sees.of rfl) rfl rfl rfl rfl)) rfl rfl rfl rfl) ?_
                refine dcons (CStep.step (PStep.c (p_move (y := .val _) rfl (Sees.of rfl) rfl)) rfl rfl rfl rfl) ?_
                refine dcons (CStep.step (PStep.c (p_move (y := .val _) rfl (Sees.of rfl) rfl)) rfl rfl rfl rfl) ?_
                refine dcons (CStep.step (PStep.c ((by first | exact p_indexN rfl wFind2_isl22 wFind2_siz25 (Sees.of rfl) (Sees.of rfl) (by omega) | exact p_index rfl wFind2_isl22 wFind2_siz25 (Sees.of rfl) (Sees.of rfl) (by omega) (by omega)))) rfl rfl rfl rfl) ?_
                refine dcons (CStep.step (PStep.c (p_load rfl wFind2_agg25 (Sees.of rfl) rfl)) rfl rfl rfl rfl) ?_
                refine dcons (CStep.step (PStep.c (p_move (y := .val _) rfl (Sees.of rfl) rfl)) rfl rfl rfl rfl) ?_
                refine dcons (CStep.step (PStep.c ((by first | exact p_indexN rfl wFind2_isl25 wFind2_siz3 (Sees.of rfl) (Sees.of rfl) (by omega) | exact p_index rfl wFind2_isl25 wFind2_siz3 (Sees.of rfl) (Sees.of rfl) (by omega) (by omega)))) rfl rfl rfl rfl) ?_
                refine dcons (CStep.step (PStep.c (p_load rfl wFind2_agg3 (Sees.of rfl) rfl)) rfl rfl rfl rfl) ?_
                refine dcons (CStep.step (c_call rfl wFind2_isf109 ⟨_, _, rfl, (Sees.of rfl), rfl, rfl⟩ (of_spec (((Sp.nrm ls).getD i []).getD j 0) (by omega))) rfl rfl rfl rfl) ?_
                refine dcons (CStep.step (c_buildSlice (f := di) (za := 0) (xs := [.tmp 58]) rfl rfl wFind2_isl25 wFind2_siz3 wFind2_zer3 rfl rfl ⟨_, _, rfl, (Sees.of rfl), rfl, rfl, rfl⟩) rfl rfl rfl rfl) ?_
                refine dcons (r_appendR (ob := 30000) rfl wFind2_isl25 wFind2_siz3 wFind2_byt3 wFind2_zer3 rfl rfl (Sees.of rfl) rfl (Sees.of rfl) (by simp only [List.length_map, List.length_take, List.length_cons, List.length_nil]; omega) (by simp only [List.length_map, List.length_take, List.length_cons, List.length_nil]; omega) rfl rfl rfl rfl rfl) ?_
                refine dcons (CStep.step (PStep.c (p_fieldRef rfl wFind2_fld54_0 wFind2_siz25 rfl (Sees.of rfl) rfl)) rfl rfl rfl rfl) ?_
                refine dcons (r_storeR rfl wFind2_siz25 rfl rfl rfl (Sees.of rfl) rfl rfl (Sees.of rfl) rfl) ?_
                refine dnil (by kernel_rfl) ?_
                refine f_nil ?_
                show AWs _ _ _ _ _
                refine f_region ?_
                refine scons (CStep.step (PStep.c (p_move (y := .val _) rfl (Sees.of rfl) rfl)) rfl rfl rfl rfl) ?_
                refine scons (CStep.step (PStep.c (p_add rfl (Sees.of rfl) (Sees.of rfl) (by omega))) rfl rfl rfl rfl) ?_
                refine scons (CStep.step (PStep.c (p_assign (y := .val _) rfl (Sees.of rfl) rfl)) rfl rfl rfl rfl) ?_
                refine snil ?_
                refine f_back ⟨(j + 1, w + 1), ?_, ?_, le_ofL ⟨rfl, rfl, rfl, (by rw [Sp.take_getD ((Sp.nrm ls).getD i []) j 0 (by omega), List.map_append]; rfl), rfl, rfl, rfl, rfl, rfl, trivial⟩ rfl⟩
                · show j + 1 ≤ ((Sp.nrm ls).getD i []).length
                  omega
                · show ((Sp.nrm ls).getD i []).length - (j + 1) < ((Sp.nrm ls).getD i []).length - j
                  omega
              · intro hc4
                try simp only [bs] at hc4
                refine f_exit ?_
                show AWs _ _ _ _ _
                refine f_seq ?_
                refine f_seq ?_
                obtain rfl : j = ((Sp.nrm ls).getD i []).length := by omega
                have hmt : (((Sp.nrm ls).getD i []).take ((Sp.nrm ls).getD i []).length).map Sp.av = ((Sp.nrm ls).getD i []).map Sp.av := by rw [List.take_length]
                have hpv : ∀ v ∈ ((Sp.nrm ls).getD i []).map Sp.av, 1 ≤ v ∧ v ≤ 120 := fun v hv => by
                  obtain ⟨x, h1, rfl⟩ := List.mem_map.1 hv
                  have := hx0.2 x h1
                  unfold Sp.av
                  omega
                refine f_le (GLe.le (g_freezeB (ob := 10007) (off := 0) (o1 := 30000) rfl rfl rfl rfl rfl rfl rfl)) ?_ (by simp)
                refine f_region ?_
                refine scons (CStep.step (PStep.c (p_loadBS rfl wFind2_agg54 wFind2_siz54 (Sees.of rfl) rfl rfl rfl)) rfl rfl rfl rfl) ?_
                refine scons (CStep.step (c_call rfl wFind2_isf33 ⟨_, _, rfl, (Sees.of rfl), rfl, rfl⟩ ((by rw [hmt]; exact parClausesR_spec (((Sp.nrm ls).getD i []).map Sp.av, [false, true].getD k false) (by dsimp only; rw [List.length_map]; omega) hpv))) rfl rfl rfl rfl) ?_
                refine scons (CStep.step (PStep.c (p_move (y := .val _) rfl (Sees.of rfl) rfl)) rfl rfl rfl rfl) ?_
                refine scons (CStep.step (c_call rfl wFind2_isf110 ⟨_, _, rfl, (Sees.of rfl), rfl, ⟨_, _, rfl, (Sees.of rfl), rfl, rfl⟩⟩ (allIn_spec _ _)) rfl rfl rfl rfl) ?_
                refine scons (CStep.step (PStep.c (p_not rfl (Sees.of rfl))) rfl rfl rfl rfl) ?_
                refine snil ?_
                skip
                refine f_cond rfl ?_ ?_
                · intro hc5
                  try simp only [bs] at hc5
                  refine f_exit ?_
                  show AWs _ _ _ _ _
                  refine f_region ?_
                  refine scons (CStep.step (PStep.c (p_move (y := .val _) rfl (Sees.of rfl) rfl)) rfl rfl rfl rfl) ?_
                  refine scons (CStep.step (PStep.c (p_add rfl (Sees.of rfl) (Sees.of rfl) (by omega))) rfl rfl rfl rfl) ?_
                  refine scons (CStep.step (PStep.c (p_assign (y := .val _) rfl (Sees.of rfl) rfl)) rfl rfl rfl rfl) ?_
                  refine snil ?_
                  have hok : Sp.okP ls (((Sp.nrm ls).getD i []).map Sp.av, [false, true].getD k false) = false := by rw [← Sp.okP_in]; exact hc5
                  refine f_back ⟨k + 1, ?_, ?_, le_ofL ⟨rfl, rfl, (by rw [Sp.cand_no (by omega) hok]; rfl), rfl, rfl, trivial⟩ rfl⟩
                  · omega
                  · omega
                · intro hc5
                  try simp only [bs] at hc5
                  refine f_skip ?_
                  refine f_seq ?_
                  refine f_region ?_
                  refine scons (CStep.step (PStep.c (p_assign (y := .val _) rfl (Sees.of rfl) rfl)) rfl rfl rfl rfl) ?_
                  refine snil ?_
                  refine f_seq ?_
                  refine f_block ?_
                  refine f_loop (α := Nat) (fun t => t ≤ (Sp.nubP (Sp.candTo ls i ++ Sp.cand ls ((Sp.nrm ls).getD i []) k)).length ∧ ∀ y ∈ (Sp.nubP (Sp.candTo ls i ++ Sp.cand ls ((Sp.nrm ls).getD i []) k)).take t, Sp.parLt y (((Sp.nrm ls).getD i []).map Sp.av, [false, true].getD k false) = true) (fun t => [(9, iv t), (7, .ref 10007 0 0), (10007, .box 0 (.ccons (.val (ints (((Sp.nrm ls).getD i []).map Sp.av))) (.ccons (bv ([false, true].getD k false)) .cnil))), (5, iv i), (6, iv k), (4, .val (pars (Sp.nubP (Sp.candTo ls i ++ Sp.cand ls ((Sp.nrm ls).getD i []) k)))), (3, .val (intss (Sp.nrm ls))), (2, .emp)]) (fun t => (Sp.nubP (Sp.candTo ls i ++ Sp.cand ls ((Sp.nrm ls).getD i []) k)).length - t) 0 ?_ ?_ ?_
                  · exact ⟨Nat.zero_le _, by simp⟩
                  · exact le_ofL ⟨rfl, rfl, (by show AV.box _ (.ccons (.val (ints ((((Sp.nrm ls).getD i []).take ((Sp.nrm ls).getD i []).length).map Sp.av))) _) = _; rw [hmt]), rfl, rfl, rfl, rfl, rfl, trivial⟩ rfl
                  · rintro t ⟨ht, hp⟩
                    have hnb := Sp.nubP_len (Sp.candTo ls i ++ Sp.cand ls ((Sp.nrm ls).getD i []) k)
                    have hcl := Sp.candTo_len ls i (by omega)
                    have hcl2 := Sp.cand_len ls ((Sp.nrm ls).getD i []) k
                    rw [List.length_append] at hnb
                    refine f_seq ?_
                    refine f_seq ?_
                    refine f_draw wFind2_mix (by kernel_rfl) ?_
                    refine dcons (CStep.step (PStep.c (p_move (y := .val _) rfl (Sees.of rfl) rfl)) rfl rfl rfl rfl) ?_
                    refine dcons (CStep.step (PStep.c (p_move (y := .val _) rfl (Sees.of rfl) rfl)) rfl rfl rfl rfl) ?_
                    refine dcons (CStep.step (PStep.c (p_len rfl wFind2_isl58 (Sees.of rfl))) rfl rfl rfl rfl) ?_
                    refine dcons (CStep.step (PStep.c (p_lss rfl (Sees.of rfl) (Sees.of rfl))) rfl rfl rfl rfl) ?_
                    refine dcons (CStep.step (PStep.c (p_move (y := .val _) rfl (Sees.of rfl) rfl)) rfl rfl rfl rfl) ?_
                    refine dcons (CStep.guard rfl rfl rfl (fun hg0 => PStep.c (p_move (y := .val _) rfl (Sees.of rfl) rfl)) rfl rfl rfl rfl rfl) ?_
                    refine dcons (CStep.guard rfl rfl rfl (fun hg0 => PStep.c (p_move (y := .val _) rfl (Sees.of rfl) rfl)) rfl rfl rfl rfl rfl) ?_
                    refine dcons (CStep.guard rfl rfl rfl (fun hg0 => by have hp0 := hg0; (try simp only [bs] at hp0); exact PStep.c ((by first | exact p_indexN rfl wFind2_isl58 wFind2_siz54 (Sees.gv' rfl hg0) (Sees.gv' rfl hg0) (by omega) | exact p_index rfl wFind2_isl58 wFind2_siz54 (Sees.gv' rfl hg0) (Sees.gv' rfl hg0) (by omega) (by omega)))) rfl rfl rfl rfl rfl) ?_
                    refine dcons (CStep.guard rfl rfl rfl (fun hg0 => PStep.c (p_loadS rfl wFind2_agg54 wFind2_siz54 (Sees.gv' rfl hg0) ⟨rfl, fun h => R_len rfl h⟩)) rfl rfl rfl rfl rfl) ?_
                    refine dcons (CStep.guard rfl rfl rfl (fun hg0 => PStep.c (p_loadBS rfl wFind2_agg54 wFind2_siz54 (Sees.of rfl) rfl rfl rfl)) rfl rfl rfl rfl rfl) ?_
                    refine dcons (CStep.guard rfl rfl rfl (fun hg0 => c_call rfl wFind2_isf111 ⟨_, _, rfl, (Sees.gv' rfl hg0), rfl, ⟨_, _, rfl, (Sees.gv' rfl hg0), rfl, rfl⟩⟩ (parAhead_spec ((Sp.nubP (Sp.candTo ls i ++ Sp.cand ls ((Sp.nrm ls).getD i []) k)).getD t ([], false)) (((Sp.nrm ls).getD i []).map Sp.av, [false, true].getD k false))) rfl rfl rfl rfl rfl) ?_
                    refine dcons (CStep.step (PStep.c (p_and rfl (Sees.of rfl) (fun h => Sees.gv' rfl (beq_of_eq h)) (Sees.of rfl))) rfl rfl rfl rfl) ?_
                    refine dnil (by kernel_rfl) ?_
                    refine f_cond rfl ?_ ?_
                    · intro hc6
                      try simp only [bs] at hc6
                      refine f_skip ?_
                      refine f_block ?_
                      refine f_region ?_
                      refine scons (CStep.step (PStep.c (p_move (y := .val _) rfl (Sees.of rfl) rfl)) rfl rfl rfl rfl) ?_
                      refine scons (CStep.step (PStep.c (p_add rfl (Sees.of rfl) (Sees.of rfl) (by omega))) rfl rfl rfl rfl) ?_
                      refine scons (CStep.step (PStep.c (p_assign (y := .val _) rfl (Sees.of rfl) rfl)) rfl rfl rfl rfl) ?_
                      refine snil ?_
                      refine f_nil ?_
                      show AWs _ _ _ _ _
                      skip
                      refine f_back ⟨t + 1, ?_, ?_, le_ofL ⟨rfl, rfl, rfl, rfl, rfl, rfl, rfl, rfl, trivial⟩ rfl⟩
                      · exact ⟨by omega, Sp.step_all (by omega) hp hc6.2⟩
                      · omega
                    · intro hc6
                      try simp only [bs] at hc6
                      refine f_exit ?_
                      show AWs _ _ _ _ _
                      refine f_seq ?_
                      refine f_seq ?_
                      refine f_draw wFind2_mix (by kernel_rfl) ?_
                      refine dcons (CStep.step (PStep.c (p_move (y := .val _) rfl (Sees.of rfl) rfl)) rfl rfl rfl rfl) ?_
                      refine dcons (CStep.step (PStep.c (p_move (y := .val _) rfl (Sees.of rfl) rfl)) rfl rfl rfl rfl) ?_
                      refine dcons (CStep.step (PStep.c (p_len rfl wFind2_isl58 (Sees.of rfl))) rfl rfl rfl rfl) ?_
                      refine dcons (CStep.step (PStep.c (p_lss rfl (Sees.of rfl) (Sees.of rfl))) rfl rfl rfl rfl) ?_
                      refine dcons (CStep.step (PStep.c (p_move (y := .val _) rfl (Sees.of rfl) rfl)) rfl rfl rfl rfl) ?_
                      refine dcons (CStep.guard rfl rfl rfl (fun hg0 => PStep.c (p_move (y := .val _) rfl (Sees.of rfl) rfl)) rfl rfl rfl rfl rfl) ?_
                      refine dcons (CStep.guard rfl rfl rfl (fun hg0 => PStep.c (p_move (y := .val _) rfl (Sees.of rfl) rfl)) rfl rfl rfl rfl rfl) ?_
                      refine dcons (CStep.guard rfl rfl rfl (fun hg0 => by have hp0 := hg0; (try simp only [bs] at hp0); exact PStep.c ((by first | exact p_indexN rfl wFind2_isl58 wFind2_siz54 (Sees.gv' rfl hg0) (Sees.gv' rfl hg0) (by omega) | exact p_index rfl wFind2_isl58 wFind2_siz54 (Sees.gv' rfl hg0) (Sees.gv' rfl hg0) (by omega) (by omega)))) rfl rfl rfl rfl rfl) ?_
                      refine dcons (CStep.guard rfl rfl rfl (fun hg0 => PStep.c (p_loadS rfl wFind2_agg54 wFind2_siz54 (Sees.gv' rfl hg0) ⟨rfl, fun h => R_len rfl h⟩)) rfl rfl rfl rfl rfl) ?_
                      refine dcons (CStep.guard rfl rfl rfl (fun hg0 => PStep.c (p_loadBS rfl wFind2_agg54 wFind2_siz54 (Sees.of rfl) rfl rfl rfl)) rfl rfl rfl rfl rfl) ?_
                      refine dcons (CStep.guard rfl rfl rfl (fun hg0 => c_call rfl wFind2_isf55 ⟨_, _, rfl, (Sees.gv' rfl hg0), rfl, ⟨_, _, rfl, (Sees.gv' rfl hg0), rfl, rfl⟩⟩ (parSameN_spec ((Sp.nubP (Sp.candTo ls i ++ Sp.cand ls ((Sp.nrm ls).getD i []) k)).getD t ([], false)) (((Sp.nrm ls).getD i []).map Sp.av, [false, true].getD k false))) rfl rfl rfl rfl rfl) ?_
                      refine dcons (CStep.step (PStep.c (p_and rfl (Sees.of rfl) (fun h => Sees.gv' rfl (beq_of_eq h)) (Sees.of rfl))) rfl rfl rfl rfl) ?_
                      refine dnil (by kernel_rfl) ?_
                      refine f_cond rfl ?_ ?_
                      · intro hc7
                        try simp only [bs] at hc7
                        refine f_exit ?_
                        show AWs _ _ _ _ _
                        refine f_region ?_
                        refine scons (CStep.step (PStep.c (p_move (y := .val _) rfl (Sees.of rfl) rfl)) rfl rfl rfl rfl) ?_
                        refine scons (CStep.step (PStep.c (p_add rfl (Sees.of rfl) (Sees.of rfl) (by omega))) rfl rfl rfl rfl) ?_
                        refine scons (CStep.step (PStep.c (p_assign (y := .val _) rfl (Sees.of rfl) rfl)) rfl rfl rfl rfl) ?_
                        refine snil ?_
                        have hok : Sp.okP ls (((Sp.nrm ls).getD i []).map Sp.av, [false, true].getD k false) = true := by rw [← Sp.okP_in]; exact hc5
                        have hin : (((Sp.nrm ls).getD i []).map Sp.av, [false, true].getD k false) ∈ (Sp.nubP (Sp.candTo ls i ++ Sp.cand ls ((Sp.nrm ls).getD i []) k)) := by rw [← hc7.2]; exact Sp.getD_mem _ t _ (by omega)
                        refine f_back ⟨k + 1, ?_, ?_, le_ofL ⟨rfl, rfl, (by rw [Sp.cand_yes (by omega) (by omega) hok, ← List.append_assoc, Sp.nubP, Sp.nub_skip Sp.lt_par hin]; rfl), rfl, rfl, trivial⟩ rfl⟩
                        · omega
                        · omega
                      · intro hc7
                        try simp only [bs] at hc7
                        refine f_skip ?_
                        refine f_draw wFind2_mix (by kernel_rfl) ?_
                        refine dcons (r_buildRow (f := dPar) (za := ([], false)) (xs := []) (by_ := 32) (ob := 10093) rfl rfl wFind2_isl58 wFind2_siz54 wFind2_zer54 rfl rfl (by decide) rfl rfl rfl rfl rfl rfl) ?_
                        refine dcons (CStep.step (PStep.c (p_move (y := .val _) rfl (Sees.of rfl) rfl)) rfl rfl rfl rfl) ?_
                        refine dcons (CStep.step (PStep.c (p_move (y := .val _) rfl (Sees.of rfl) rfl)) rfl rfl rfl rfl) ?_
                        refine dcons (CStep.step (PStep.c (p_slice  rfl wFind2_isl58 wFind2_siz54 (Sees.of rfl) rfl (Sees.of rfl) (by omega) (by omega))) rfl rfl rfl rfl) ?_
                        refine dcons (r_appendR (ob := 10097) rfl wFind2_isl58 wFind2_siz54 wFind2_byt54 wFind2_zer54 rfl rfl (Sees.of rfl) rfl (Sees.of rfl) (by have := Sp.nubP_len (Sp.candTo ls i ++ Sp.cand ls ((Sp.nrm ls).getD i []) k); have h8 := Sp.candTo_len ls i (by omega); have h9 := Sp.cand_len ls ((Sp.nrm ls).getD i []) k; simp only [List.length_append] at this; simp only [List.length_append, List.length_take, List.length_drop, List.length_cons, List.length_nil]; omega) (by have := Sp.nubP_len (Sp.candTo ls i ++ Sp.cand ls ((Sp.nrm ls).getD i []) k); have h8 := Sp.candTo_len ls i (by omega); have h9 := Sp.cand_len ls ((Sp.nrm ls).getD i []) k; simp only [List.length_append] at this; simp only [List.length_append, List.length_take, List.length_drop, List.length_cons, List.length_nil]; omega) rfl rfl rfl rfl rfl) ?_
                        refine dcons (CStep.step (PStep.c (p_loadBS rfl wFind2_agg54 wFind2_siz54 (Sees.of rfl) rfl rfl rfl)) rfl rfl rfl rfl) ?_
                        refine dcons (CStep.step (c_buildSlice (f := dPar) (za := ([], false)) (xs := [.tmp 98]) rfl rfl wFind2_isl58 wFind2_siz54 wFind2_zer54 rfl rfl ⟨(_, _), _, rfl, (Sees.of rfl), rfl, rfl, rfl⟩) rfl rfl rfl rfl) ?_
                        refine dcons (r_appendR (ob := 10100) rfl wFind2_isl58 wFind2_siz54 wFind2_byt54 wFind2_zer54 rfl rfl (Sees.of rfl) rfl (Sees.of rfl) (by have := Sp.nubP_len (Sp.candTo ls i ++ Sp.cand ls ((Sp.nrm ls).getD i []) k); have h8 := Sp.candTo_len ls i (by omega); have h9 := Sp.cand_len ls ((Sp.nrm ls).getD i []) k; simp only [List.length_append] at this; simp only [List.length_append, List.length_take, List.length_drop, List.length_cons, List.length_nil]; omega) (by have := Sp.nubP_len (Sp.candTo ls i ++ Sp.cand ls ((Sp.nrm ls).getD i []) k); have h8 := Sp.candTo_len ls i (by omega); have h9 := Sp.cand_len ls ((Sp.nrm ls).getD i []) k; simp only [List.length_append] at this; simp only [List.length_append, List.length_take, List.length_drop, List.length_cons, List.length_nil]; omega) rfl rfl rfl rfl rfl) ?_
                        refine dcons (CStep.step (PStep.c (p_move (y := .val _) rfl (Sees.of rfl) rfl)) rfl rfl rfl rfl) ?_
                        refine dcons (CStep.step (PStep.c (p_move (y := .val _) rfl (Sees.of rfl) rfl)) rfl rfl rfl rfl) ?_
                        refine dcons (CStep.step (PStep.c (p_slice  rfl wFind2_isl58 wFind2_siz54 (Sees.of rfl) (Sees.of rfl) rfl (by omega) (by omega))) rfl rfl rfl rfl) ?_
                        refine dcons (r_appendR (ob := 10104) rfl wFind2_isl58 wFind2_siz54 wFind2_byt54 wFind2_zer54 rfl rfl (Sees.of rfl) rfl (Sees.of rfl) (by have := Sp.nubP_len (Sp.candTo ls i ++ Sp.cand ls ((Sp.nrm ls).getD i []) k); have h8 := Sp.candTo_len ls i (by omega); have h9 := Sp.cand_len ls ((Sp.nrm ls).getD i []) k; simp only [List.length_append] at this; simp only [List.length_append, List.length_take, List.length_drop, List.length_cons, List.length_nil]; omega) (by have := Sp.nubP_len (Sp.candTo ls i ++ Sp.cand ls ((Sp.nrm ls).getD i []) k); have h8 := Sp.candTo_len ls i (by omega); have h9 := Sp.cand_len ls ((Sp.nrm ls).getD i []) k; simp only [List.length_append] at this; simp only [List.length_append, List.length_take, List.length_drop, List.length_cons, List.length_nil]; omega) rfl rfl rfl rfl rfl) ?_
                        refine dcons (CStep.step (PStep.c (p_assign (y := .row _ _) rfl (Sees.of rfl) rfl)) rfl rfl rfl rfl) ?_
                        refine dnil (by kernel_rfl) ?_
                        refine f_nil ?_
                        show AWs _ _ _ _ _
                        refine f_le (GLe.le (g_freeze (k := 4) (o1 := 10104) rfl rfl rfl rfl)) ?_ (by simp)
                        refine f_region ?_
                        refine scons (CStep.step (PStep.c (p_move (y := .val _) rfl (Sees.of rfl) rfl)) rfl rfl rfl rfl) ?_
                        refine scons (CStep.step (PStep.c (p_add rfl (Sees.of rfl) (Sees.of rfl) (by omega))) rfl rfl rfl rfl) ?_
                        refine scons (CStep.step (PStep.c (p_assign (y := .val _) rfl (Sees.of rfl) rfl)) rfl rfl rfl rfl) ?_
                        refine snil ?_
                        have hok : Sp.okP ls (((Sp.nrm ls).getD i []).map Sp.av, [false, true].getD k false) = true := by rw [← Sp.okP_in]; exact hc5
                        have hput := Sp.nub_put (z := ([], false)) Sp.lt_par (l := Sp.candTo ls i ++ Sp.cand ls ((Sp.nrm ls).getD i []) k) (x := (((Sp.nrm ls).getD i []).map Sp.av, [false, true].getD k false)) (k := t) ht hp (fun h => hc6.resolve_left (by have h : t < (Sp.nubP (Sp.candTo ls i ++ Sp.cand ls ((Sp.nrm ls).getD i []) k)).length := h; omega)) (fun h e => hc7.elim (fun h2 => by have h : t < (Sp.nubP (Sp.candTo ls i ++ Sp.cand ls ((Sp.nrm ls).getD i []) k)).length := h; omega) (fun h2 => h2 e))
                        refine f_back ⟨k + 1, ?_, ?_, le_ofL ⟨rfl, rfl, (by rw [Sp.cand_yes (by omega) (by omega) hok, ← List.append_assoc, Sp.nubP, hput, ← Sp.put_form]; rfl), rfl, rfl, trivial⟩ rfl⟩
                        · omega
                        · omega
          · intro hc3
            try simp only [bs] at hc3
            refine f_exit ?_
            show AWs _ _ _ _ _
            refine f_nil ?_
            show AWs _ _ _ _ _
            refine f_region ?_
            refine scons (CStep.step (PStep.c (p_move (y := .val _) rfl (Sees.of rfl) rfl)) rfl rfl rfl rfl) ?_
            refine scons (CStep.step (PStep.c (p_add rfl (Sees.of rfl) (Sees.of rfl) (by omega))) rfl rfl rfl rfl) ?_
            refine scons (CStep.step (PStep.c (p_assign (y := .val _) rfl (Sees.of rfl) rfl)) rfl rfl rfl rfl) ?_
            refine snil ?_
            obtain rfl : k = 2 := by omega
            refine f_back ⟨i + 1, ?_, ?_, le_ofL ⟨rfl, (by rw [Sp.candTo_succ (by omega)]; rfl), rfl, rfl, trivial⟩ rfl⟩
            · omega
            · omega
    · intro hc1
      try simp only [bs] at hc1
      refine f_exit ?_
      show AWs _ _ _ _ _
      refine f_seq ?_
      refine f_region ?_
      refine scons (CStep.step (PStep.c (p_move (y := .val _) rfl (Sees.of rfl) rfl)) rfl rfl rfl rfl) ?_
      refine scons (CStep.step (PStep.c (p_assign (y := .val _) rfl (Sees.of rfl) rfl)) rfl rfl rfl rfl) ?_
      refine snil ?_
      refine f_ret ?_
      refine ends_ret (res_eq (res1 rfl (res_tmp rfl (Sees.of rfl))) ?_)
      obtain rfl : i = (Sp.nrm ls).length := by omega
      rw [Sp.findP_ref hck]

set_option maxHeartbeats 1000000 in
theorem ParFinds_spec (n : Int) (ls : List (List Int)) :
    Spec Go.Proofs.Try.prog 12 [.val (cnf n ls)] (D.bool true) := by
  refine spec_of' Go.Proofs.Try.func12 rfl Go.Proofs.Try.ntmps12 rfl ?_
  refine f_seq ?_
  refine f_region ?_
  refine scons (r_box (ob := 10001) rfl (Sees.of rfl) rfl rfl rfl rfl rfl rfl) ?_
  refine scons (CStep.step (PStep.c (p_assign (y := .val _) rfl (Sees.of rfl) rfl)) rfl rfl rfl rfl) ?_
  refine snil ?_
  refine f_seq ?_
  refine f_seq ?_
  refine f_region ?_
  refine scons (CStep.step (PStep.c (p_fieldRef rfl wFind2_fld24_1 wFind2_siz22 rfl (Sees.of rfl) rfl)) rfl rfl rfl rfl) ?_
  refine scons (CStep.step (PStep.c (p_loadB (y := .val _) rfl wFind2_agg22 (Sees.of rfl) rfl rfl rfl rfl)) rfl rfl rfl rfl) ?_
  refine scons (CStep.step (PStep.c (p_len rfl wFind2_isl22 (Sees.of rfl))) rfl rfl rfl rfl) ?_
  refine scons (CStep.step (PStep.c (p_gtr rfl (Sees.of rfl) (Sees.of rfl))) rfl rfl rfl rfl) ?_
  refine scons (CStep.step (PStep.c (p_move (y := .val _) rfl (Sees.of rfl) rfl)) rfl rfl rfl rfl) ?_
  refine scons (CStep.guard rfl rfl rfl (fun hg0 => PStep.c (p_fieldRef rfl wFind2_fld24_1 wFind2_siz22 rfl (Sees.of rfl) rfl)) rfl rfl rfl rfl rfl) ?_
  refine scons (CStep.guard rfl rfl rfl (fun hg0 => PStep.c (p_loadB (y := .val _) rfl wFind2_agg22 (Sees.gv' rfl hg0) rfl rfl rfl rfl)) rfl rfl rfl rfl rfl) ?_
  refine scons (CStep.guard rfl rfl rfl (fun hg0 => PStep.c (p_len rfl wFind2_isl22 (Sees.gv' rfl hg0))) rfl rfl rfl rfl rfl) ?_
  refine scons (CStep.guard rfl rfl rfl (fun hg0 => PStep.c (p_leq rfl (Sees.gv' rfl hg0) (Sees.of rfl))) rfl rfl rfl rfl rfl) ?_
  refine scons (CStep.step (PStep.c (p_and rfl (Sees.of rfl) (fun h => Sees.gv' rfl (beq_of_eq h)) (Sees.of rfl))) rfl rfl rfl rfl) ?_
  refine snil ?_
  refine f_cond rfl ?_ ?_
  · intro hc1
    try simp only [bs] at hc1
    refine f_seq ?_
    refine f_region ?_
    refine scons (CStep.step (PStep.c (p_assign (y := .val _) rfl (Sees.of rfl) rfl)) rfl rfl rfl rfl) ?_
    refine snil ?_
    refine f_ret ?_
    refine ends_ret (res_eq (res1 rfl (res_tmp rfl (Sees.of rfl))) ?_)
    rfl
  · intro hc1
    try simp only [bs] at hc1
    refine f_skip ?_
    refine f_seq ?_
    refine f_region ?_
    refine scons (CStep.step (PStep.c (p_loadBS rfl wFind2_agg24 wFind2_siz24 (Sees.of rfl) rfl rfl rfl)) rfl rfl rfl rfl) ?_
    refine scons (CStep.step (c_call rfl wFind2_isf48 ⟨_, _, rfl, (Sees.of rfl), rfl, rfl⟩ (find_spec n ls)) rfl rfl rfl rfl) ?_
    refine scons (CStep.step (PStep.c (p_move (y := .val _) rfl (Sees.of rfl) rfl)) rfl rfl rfl rfl) ?_
    refine scons (CStep.step (PStep.c (p_extract rfl (Sees.of rfl) rfl)) rfl rfl rfl rfl) ?_
    refine scons (CStep.step (PStep.c (p_extract rfl (Sees.of rfl) rfl)) rfl rfl rfl rfl) ?_
    refine scons (r_alloc (ob := 10004) rfl wFind2_zer28 rfl rfl rfl rfl rfl rfl) ?_
    refine scons (CStep.step (PStep.c (p_assign (y := .val _) rfl (Sees.of rfl) rfl)) rfl rfl rfl rfl) ?_
    refine scons (r_storeS rfl wFind2_siz28 rfl rfl rfl (Sees.of rfl) rfl (Sees.of rfl) rfl rfl rfl rfl) ?_
    refine snil ?_
    refine f_seq ?_
    refine f_region ?_
    refine scons (CStep.step (PStep.c (p_loadBS rfl wFind2_agg24 wFind2_siz24 (Sees.of rfl) rfl rfl rfl)) rfl rfl rfl rfl) ?_
    refine scons (CStep.step (c_call rfl wFind2_isf49 ⟨_, _, rfl, (Sees.of rfl), rfl, rfl⟩ (check_spec n ls)) rfl rfl rfl rfl) ?_
    refine scons (r_alloc (ob := 10005) rfl wFind2_zer28 rfl rfl rfl rfl rfl rfl) ?_
    refine scons (r_storeS rfl wFind2_siz28 rfl rfl rfl (Sees.of rfl) rfl (Sees.of rfl) rfl rfl rfl rfl) ?_
    refine snil ?_
    refine f_seq ?_
    refine f_seq ?_
    refine f_region ?_
    refine scons (CStep.step (PStep.c (p_fieldRef rfl wFind2_fld28_0 wFind2_siz3 rfl (Sees.of rfl) rfl)) rfl rfl rfl rfl) ?_
    refine scons (CStep.step (PStep.c (p_loadB (y := .val _) rfl wFind2_agg3 (Sees.of rfl) rfl rfl rfl rfl)) rfl rfl rfl rfl) ?_
    refine scons (CStep.step (PStep.c (p_neq rfl (Sees.of rfl) (Sees.of rfl))) rfl rfl rfl rfl) ?_
    refine snil ?_
    refine f_cond rfl ?_ ?_
    · intro hc2
      try simp only [bs] at hc2
      refine f_seq ?_
      refine f_region ?_
      refine scons (CStep.step (PStep.c (p_loadBS rfl wFind2_agg28 wFind2_siz28 (Sees.of rfl) rfl rfl rfl)) rfl rfl rfl rfl) ?_
      refine scons (CStep.step (PStep.c (p_loadBS rfl wFind2_agg28 wFind2_siz28 (Sees.of rfl) rfl rfl rfl)) rfl rfl rfl rfl) ?_
      refine scons (CStep.step (PStep.c (p_eqlS2 rfl wFind2_eq228 (Sees.of rfl) (Sees.of rfl))) rfl rfl rfl rfl) ?_
      refine scons (CStep.step (PStep.c (p_move (y := .val _) rfl (Sees.of rfl) rfl)) rfl rfl rfl rfl) ?_
      refine scons (CStep.guard rfl rfl rfl (fun hg0 => PStep.c (p_move (y := .val _) rfl (Sees.of rfl) rfl)) rfl rfl rfl rfl rfl) ?_
      refine scons (CStep.guard rfl rfl rfl (fun hg0 => PStep.c (p_len rfl wFind2_isl58 (Sees.gv' rfl hg0))) rfl rfl rfl rfl rfl) ?_
      refine scons (CStep.guard rfl rfl rfl (fun hg0 => PStep.c (p_eql rfl (Sees.gv' rfl hg0) (Sees.of rfl))) rfl rfl rfl rfl rfl) ?_
      refine scons (CStep.step (PStep.c (p_and rfl (Sees.of rfl) (fun h => Sees.gv' rfl (beq_of_eq h)) (Sees.of rfl))) rfl rfl rfl rfl) ?_
      refine scons (CStep.step (PStep.c (p_assign (y := .val _) rfl (Sees.of rfl) rfl)) rfl rfl rfl rfl) ?_
      refine snil ?_
      refine f_ret ?_
      refine ends_ret (res_eq (res1 rfl (res_tmp rfl (Sees.of rfl))) ?_)
      have e : (Sp.findOf n ls) = ([], Sp.check n ls) := by rw [Sp.findOf, if_pos hc2]
      rw [e]
      simp
    · intro hc2
      try simp only [bs] at hc2
      refine f_skip ?_
      refine f_seq ?_
      refine f_region ?_
      refine scons (CStep.step (c_call rfl wFind2_isf23 rfl (pair_spec)) rfl rfl rfl rfl) ?_
      refine scons (CStep.step (c_call rfl wFind2_isf48 ⟨_, _, rfl, (Sees.of rfl), rfl, rfl⟩ (find_spec 2 [[1, 2], [-1]])) rfl rfl rfl rfl) ?_
      refine scons (CStep.step (PStep.c (p_move (y := .val _) rfl (Sees.of rfl) rfl)) rfl rfl rfl rfl) ?_
      refine scons (CStep.step (PStep.c (p_extract rfl (Sees.of rfl) rfl)) rfl rfl rfl rfl) ?_
      refine scons (CStep.step (PStep.c (p_extract rfl (Sees.of rfl) rfl)) rfl rfl rfl rfl) ?_
      refine scons (r_alloc (ob := 10007) rfl wFind2_zer28 rfl rfl rfl rfl rfl rfl) ?_
      refine scons (CStep.step (PStep.c (p_assign (y := .val _) rfl (Sees.of rfl) rfl)) rfl rfl rfl rfl) ?_
      refine scons (r_storeS rfl wFind2_siz28 rfl rfl rfl (Sees.of rfl) rfl (Sees.of rfl) rfl rfl rfl rfl) ?_
      refine snil ?_
      refine f_seq ?_
      refine f_region ?_
      refine scons (CStep.step (PStep.c (p_loadBS rfl wFind2_agg28 wFind2_siz28 (Sees.of rfl) rfl rfl rfl)) rfl rfl rfl rfl) ?_
      refine scons (CStep.step (PStep.c (p_loadBS rfl wFind2_agg28 wFind2_siz28 (Sees.of rfl) rfl rfl rfl)) rfl rfl rfl rfl) ?_
      refine scons (CStep.step (PStep.c (p_eqlS2 rfl wFind2_eq228 (Sees.of rfl) (Sees.of rfl))) rfl rfl rfl rfl) ?_
      refine scons (CStep.step (PStep.c (p_move (y := .val _) rfl (Sees.of rfl) rfl)) rfl rfl rfl rfl) ?_
      refine scons (CStep.guard rfl rfl rfl (fun hg0 => PStep.c (p_move (y := .val _) rfl (Sees.of rfl) rfl)) rfl rfl rfl rfl rfl) ?_
      refine scons (CStep.guard rfl rfl rfl (fun hg0 => PStep.c (p_loadBS rfl wFind2_agg24 wFind2_siz24 (Sees.of rfl) rfl rfl rfl)) rfl rfl rfl rfl rfl) ?_
      refine scons (CStep.guard rfl rfl rfl (fun hg0 => c_call rfl wFind2_isf51 ⟨_, _, rfl, (Sees.gv' rfl hg0), rfl, rfl⟩ (findR_spec n ls hc2)) rfl rfl rfl rfl rfl) ?_
      refine scons (CStep.guard rfl rfl rfl (fun hg0 => c_call rfl wFind2_isf50 ⟨_, _, rfl, (Sees.gv' rfl hg0), rfl, ⟨_, _, rfl, (Sees.gv' rfl hg0), rfl, rfl⟩⟩ (parRows_spec _ _)) rfl rfl rfl rfl rfl) ?_
      refine scons (CStep.step (PStep.c (p_and rfl (Sees.of rfl) (fun h => Sees.gv' rfl (beq_of_eq h)) (Sees.of rfl))) rfl rfl rfl rfl) ?_
      refine scons (CStep.step (PStep.c (p_move (y := .val _) rfl (Sees.of rfl) rfl)) rfl rfl rfl rfl) ?_
      refine scons (CStep.guard rfl rfl rfl (fun hg0 => PStep.c (p_fieldRef rfl wFind2_fld28_0 wFind2_siz3 rfl (Sees.of rfl) rfl)) rfl rfl rfl rfl rfl) ?_
      refine scons (CStep.guard rfl rfl rfl (fun hg0 => PStep.c (p_loadB (y := .val _) rfl wFind2_agg3 (Sees.gv' rfl hg0) rfl rfl rfl rfl)) rfl rfl rfl rfl rfl) ?_
      refine scons (CStep.guard rfl rfl rfl (fun hg0 => PStep.c (p_eql rfl (Sees.gv' rfl hg0) (Sees.of rfl))) rfl rfl rfl rfl rfl) ?_
      refine scons (CStep.step (PStep.c (p_and rfl (Sees.of rfl) (fun h => Sees.gv' rfl (beq_of_eq h)) (Sees.of rfl))) rfl rfl rfl rfl) ?_
      refine scons (CStep.step (PStep.c (p_move (y := .val _) rfl (Sees.of rfl) rfl)) rfl rfl rfl rfl) ?_
      refine scons (CStep.guard rfl rfl rfl (fun hg0 => PStep.c (p_move (y := .val _) rfl (Sees.of rfl) rfl)) rfl rfl rfl rfl rfl) ?_
      refine scons (CStep.guard rfl rfl rfl (fun hg0 => c_buildSlice (f := di) (za := 0) (xs := [.const (.int .i64 1)]) rfl rfl wFind2_isl25 wFind2_siz3 wFind2_zer3 rfl rfl ⟨_, _, rfl, (Sees.of rfl), rfl, rfl, rfl⟩) rfl rfl rfl rfl rfl) ?_
      refine scons (CStep.guard rfl rfl rfl (fun hg0 => PStep.c (p_build rfl wFind2_plc54 wFind2_zer54 (by decide) wFind2_zch54 ⟨_, _, _, rfl, rfl, rfl, (Sees.gv' rfl hg0), rfl⟩ rfl)) rfl rfl rfl rfl rfl) ?_
      refine scons (CStep.guard rfl rfl rfl (fun hg0 => c_buildSlice (f := dPar) (za := ([], false)) (xs := [.tmp 58]) rfl rfl wFind2_isl58 wFind2_siz54 wFind2_zer54 rfl rfl ⟨(_, _), _, rfl, (Sees.gv' rfl hg0), rfl, rfl, rfl⟩) rfl rfl rfl rfl rfl) ?_
      refine scons (CStep.guard rfl rfl rfl (fun hg0 => c_call rfl wFind2_isf50 ⟨_, _, rfl, (Sees.gv' rfl hg0), rfl, ⟨_, _, rfl, (Sees.gv' rfl hg0), rfl, rfl⟩⟩ (parRows_spec _ _)) rfl rfl rfl rfl rfl) ?_
      refine scons (CStep.step (PStep.c (p_and rfl (Sees.of rfl) (fun h => Sees.gv' rfl (beq_of_eq h)) (Sees.of rfl))) rfl rfl rfl rfl) ?_
      refine scons (CStep.step (PStep.c (p_assign (y := .val _) rfl (Sees.of rfl) rfl)) rfl rfl rfl rfl) ?_
      refine snil ?_
      refine f_ret ?_
      refine ends_ret (res_eq (res1 rfl (res_tmp rfl (Sees.of rfl))) ?_)
      have e : (Sp.findOf n ls) = (Sp.findP ls, 0, 0) := by rw [Sp.findOf, if_neg (fun h => h hc2)]
      rw [e, Sp.check_zero hc2, Sp.find_pair]
      simp

end Go.Um
