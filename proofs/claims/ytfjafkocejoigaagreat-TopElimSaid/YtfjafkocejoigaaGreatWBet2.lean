/- Walks of Go functions of this seat, each by its contract. No condition beyond what each theorem says. -/
import Derived.Test.YtfjafkocejoigaaGreatPD
import Derived.Test.YtfjafkocejoigaaGreatLayG
import Derived.Test.YtfjafkocejoigaaGreatWOrd
import Derived.Test.YtfjafkocejoigaaGreatWLst
import Derived.Test.YtfjafkocejoigaaGreatBD
import Derived.Test.YtfjafkocejoigaaGreatProg
import Derived.KernelRfl
set_option maxRecDepth 4000
namespace Go.Um
open Go Go.RowKit

theorem wBet2_agg22 : IsAgg Go.Proofs.Tryz.prog 22 false := by unfold IsAgg; kernel_rfl
theorem wBet2_agg3 : IsAgg Go.Proofs.Tryz.prog 3 false := by unfold IsAgg; kernel_rfl
theorem wBet2_byt3 : Bytes Go.Proofs.Tryz.prog 3 8 := by unfold Bytes; kernel_rfl
theorem wBet2_isf142 : IsFn Go.Proofs.Tryz.prog 142 := by unfold IsFn; kernel_rfl
theorem wBet2_isf177 : IsFn Go.Proofs.Tryz.prog 177 := by unfold IsFn; kernel_rfl
theorem wBet2_isf43 : IsFn Go.Proofs.Tryz.prog 43 := by unfold IsFn; kernel_rfl
theorem wBet2_isf51 : IsFn Go.Proofs.Tryz.prog 51 := by unfold IsFn; kernel_rfl
theorem wBet2_isf81 : IsFn Go.Proofs.Tryz.prog 81 := by unfold IsFn; kernel_rfl
theorem wBet2_isl22 : IsSlice Go.Proofs.Tryz.prog 22 3 := by unfold IsSlice; kernel_rfl
theorem wBet2_isl23 : IsSlice Go.Proofs.Tryz.prog 23 22 := by unfold IsSlice; kernel_rfl
theorem wBet2_siz22 : Size Go.Proofs.Tryz.prog 22 1 := by unfold Size; kernel_rfl
theorem wBet2_siz3 : Size Go.Proofs.Tryz.prog 3 1 := by unfold Size; kernel_rfl
def wBet2_z29 : D := .cons (.int .i64 0) (.cons (.int .i64 0) (.nil))
theorem wBet2_zer22 : Zero Go.Proofs.Tryz.prog 22 (.slice none 0 0) := by unfold Zero; kernel_rfl
theorem wBet2_zer3 : Zero Go.Proofs.Tryz.prog 3 (.int .i64 0) := by unfold Zero; kernel_rfl

abbrev intsss (l : List (List (List Int))) : D := .list 1 intss [] l
theorem concatI_spec (L : List (List Int)) (hL : L.flatten.length ≤ 1000000) :
    SpecN Go.Proofs.Tryz.prog 142 [.val (intss L)] 3 1 8 di L.flatten := by
  refine specN_of' Go.Proofs.Tryz.func142 rfl Go.Proofs.Tryz.ntmps142 rfl ?_
  refine f_seq ?_
  refine f_wf (.tmp 0) rfl (fun hwf => ?_) (by simp)
  have hlen : L.length ≤ 140737488355328 := hwf.1
  clear hwf
  have hfl := fun i : Nat => Sp.flat_le L i
  refine f_region ?_
  refine scons (CStep.step (PStep.c (p_assign (y := .emp) rfl (Sees.of rfl) rfl)) rfl rfl rfl rfl) ?_
  refine snil ?_
  refine f_seq ?_
  refine f_region ?_
  refine scons (CStep.step (PStep.c (p_assign (y := .val _) rfl (Sees.of rfl) rfl)) rfl rfl rfl rfl) ?_
  refine snil ?_
  refine f_seq ?_
  refine f_seq ?_
  refine f_region ?_
  refine scons (CStep.step (PStep.c (p_move (y := .val _) rfl (Sees.of rfl) rfl)) rfl rfl rfl rfl) ?_
  refine scons (CStep.step (PStep.c (p_len rfl wBet2_isl23 (Sees.of rfl))) rfl rfl rfl rfl) ?_
  refine scons (CStep.step (PStep.c (p_move (y := .val _) rfl (Sees.of rfl) rfl)) rfl rfl rfl rfl) ?_
  refine snil ?_
  refine f_block ?_
  refine f_loop (α := Nat) (fun i => i ≤ L.length) (fun i => [(11, iv i), (3, iv ((L.take i).flatten.length)), (0, .val (intss L)), (2, .emp), (9, .val (intss L)), (10, iv L.length)]) (fun i => L.length - i) 0 ?_ ?_ ?_
  · exact Nat.zero_le _
  · exact le_ofL ⟨rfl, rfl, rfl, rfl, rfl, rfl, trivial⟩ rfl
  · rintro i hi
    refine f_seq ?_
    refine f_region ?_
    refine scons (CStep.step (PStep.c (p_lss rfl (Sees.of rfl) (Sees.of rfl))) rfl rfl rfl rfl) ?_
    refine snil ?_
    refine f_seq ?_
    refine f_cond rfl ?_ ?_
    · intro hc1
      try simp only [bs] at hc1
      refine f_skip ?_
      refine f_seq ?_
      refine f_block ?_
      refine f_seq ?_
      refine f_region ?_
      refine scons (CStep.step (PStep.c ((by first | exact p_indexN rfl wBet2_isl23 wBet2_siz22 (Sees.of rfl) (Sees.of rfl) (by omega) | exact p_index rfl wBet2_isl23 wBet2_siz22 (Sees.of rfl) (Sees.of rfl) (by omega) (by omega)))) rfl rfl rfl rfl) ?_
      refine scons (CStep.step (PStep.c (p_load rfl wBet2_agg22 (Sees.of rfl) rfl)) rfl rfl rfl rfl) ?_
      refine scons (CStep.step (PStep.c (p_assign (y := .val _) rfl (Sees.of rfl) rfl)) rfl rfl rfl rfl) ?_
      refine snil ?_
      refine f_seq ?_
      have hft := Sp.flat_take L (i := i) (by omega)
      have hf1 := hfl (i + 1)
      rw [hft, List.length_append] at hf1
      refine f_region ?_
      refine scons (CStep.step (PStep.c (p_move (y := .val _) rfl (Sees.of rfl) rfl)) rfl rfl rfl rfl) ?_
      refine scons (CStep.step (PStep.c (p_move (y := .val _) rfl (Sees.of rfl) rfl)) rfl rfl rfl rfl) ?_
      refine scons (CStep.step (PStep.c (p_len rfl wBet2_isl22 (Sees.of rfl))) rfl rfl rfl rfl) ?_
      refine scons (CStep.step (PStep.c (p_add rfl (Sees.of rfl) (Sees.of rfl) (by omega))) rfl rfl rfl rfl) ?_
      refine scons (CStep.step (PStep.c (p_assign (y := .val _) rfl (Sees.of rfl) rfl)) rfl rfl rfl rfl) ?_
      refine snil ?_
      refine f_seq ?_
      refine f_region ?_
      refine scons (CStep.step (PStep.c (p_move (y := .val _) rfl (Sees.of rfl) rfl)) rfl rfl rfl rfl) ?_
      refine scons (CStep.step (PStep.c (p_lss rfl (Sees.of rfl) (Sees.of rfl))) rfl rfl rfl rfl) ?_
      refine snil ?_
      refine f_cond rfl ?_ ?_
      · intro hc2
        try simp only [bs] at hc2
        omega
      · intro hc2
        try simp only [bs] at hc2
        refine f_skip ?_
        refine f_nil ?_
        show AWs _ _ _ _ _
        refine f_region ?_
        refine scons (CStep.step (PStep.c (p_add rfl (Sees.of rfl) (Sees.of rfl) (by omega))) rfl rfl rfl rfl) ?_
        refine scons (CStep.step (PStep.c (p_move (y := .val _) rfl (Sees.of rfl) rfl)) rfl rfl rfl rfl) ?_
        refine snil ?_
        refine f_back ⟨i + 1, ?_, ?_, le_ofL ⟨rfl, (by rw [hft, List.length_append]; show AV.val (.int .i64 (_ + _)) = _; simp), rfl, rfl, rfl, rfl, trivial⟩ rfl⟩
        · omega
        · omega
    · intro hc1
      try simp only [bs] at hc1
      refine f_exit ?_
      show AWs _ _ _ _ _
      refine f_seq ?_
      refine f_region ?_
      refine scons (CStep.step (PStep.c (p_move (y := .val _) rfl (Sees.of rfl) rfl)) rfl rfl rfl rfl) ?_
      refine scons (r_callS (q := false) (ob := 30000) 0 rfl wBet2_isf177 (growNil_spec Go.Proofs.Tryz.layGrI (zv := .int .i64 0) (by_ := 8) (f := di) (e := 3) (F := 177) (sz := 1) rfl rfl (by unfold Size; kernel_rfl) (by unfold Bytes; kernel_rfl) (by unfold Zero; kernel_rfl) rfl rfl (n := (L.take i).flatten.length) (by have := hfl i; omega) (by have := hfl i; omega)) (sa_cons (sh_of (Sees.of rfl) rfl) (sa_cons (sh_of (Sees.of rfl) rfl) (sa_nil))) (.inl rfl) rfl rfl rfl rfl rfl) ?_
      refine scons (CStep.step (PStep.c (p_assign (y := .row _ _) rfl (Sees.of rfl) rfl)) rfl rfl rfl rfl) ?_
      refine snil ?_
      refine f_seq ?_
      refine f_seq ?_
      refine f_region ?_
      refine scons (CStep.step (PStep.c (p_move (y := .val _) rfl (Sees.of rfl) rfl)) rfl rfl rfl rfl) ?_
      refine scons (CStep.step (PStep.c (p_len rfl wBet2_isl23 (Sees.of rfl))) rfl rfl rfl rfl) ?_
      refine scons (CStep.step (PStep.c (p_move (y := .val _) rfl (Sees.of rfl) rfl)) rfl rfl rfl rfl) ?_
      refine snil ?_
      refine f_block ?_
      refine f_loop (α := Nat × Nat) (fun (j, u) => j ≤ L.length) (fun (j, u) => [(27, iv j), (6, .row 30000 u), (30000, .arr u 3 1 8 di 0 (L.take j).flatten), (2, .emp), (25, .val (intss L)), (26, iv L.length)]) (fun (j, u) => L.length - j) (0, 0) ?_ ?_ ?_
      · exact Nat.zero_le _
      · exact le_ofL ⟨rfl, rfl, rfl, rfl, rfl, rfl, trivial⟩ rfl
      · rintro ⟨j, u⟩ hj
        have hj : j ≤ L.length := hj
        refine f_seq ?_
        refine f_region ?_
        refine scons (CStep.step (PStep.c (p_lss rfl (Sees.of rfl) (Sees.of rfl))) rfl rfl rfl rfl) ?_
        refine snil ?_
        refine f_seq ?_
        refine f_cond rfl ?_ ?_
        · intro hc3
          try simp only [bs] at hc3
          refine f_skip ?_
          refine f_seq ?_
          refine f_block ?_
          refine f_seq ?_
          have hft := Sp.flat_take L (i := j) (by omega)
          have hf1 := hfl (j + 1)
          rw [hft, List.length_append] at hf1
          refine f_region ?_
          refine scons (CStep.step (PStep.c ((by first | exact p_indexN rfl wBet2_isl23 wBet2_siz22 (Sees.of rfl) (Sees.of rfl) (by omega) | exact p_index rfl wBet2_isl23 wBet2_siz22 (Sees.of rfl) (Sees.of rfl) (by omega) (by omega)))) rfl rfl rfl rfl) ?_
          refine scons (CStep.step (PStep.c (p_load rfl wBet2_agg22 (Sees.of rfl) rfl)) rfl rfl rfl rfl) ?_
          refine scons (CStep.step (PStep.c (p_assign (y := .val _) rfl (Sees.of rfl) rfl)) rfl rfl rfl rfl) ?_
          refine snil ?_
          refine f_region ?_
          refine scons (CStep.step (PStep.c (p_move (y := .row _ _) rfl (Sees.of rfl) rfl)) rfl rfl rfl rfl) ?_
          refine scons (CStep.step (PStep.c (p_move (y := .val _) rfl (Sees.of rfl) rfl)) rfl rfl rfl rfl) ?_
          refine scons (r_appendR (ob := 30000) rfl wBet2_isl22 wBet2_siz3 wBet2_byt3 wBet2_zer3 rfl rfl (Sees.of rfl) rfl (Sees.of rfl) (by omega) (by omega) rfl rfl rfl rfl rfl) ?_
          refine scons (CStep.step (PStep.c (p_assign (y := .row _ _) rfl (Sees.of rfl) rfl)) rfl rfl rfl rfl) ?_
          refine snil ?_
          refine f_nil ?_
          show AWs _ _ _ _ _
          refine f_region ?_
          refine scons (CStep.step (PStep.c (p_add rfl (Sees.of rfl) (Sees.of rfl) (by omega))) rfl rfl rfl rfl) ?_
          refine scons (CStep.step (PStep.c (p_move (y := .val _) rfl (Sees.of rfl) rfl)) rfl rfl rfl rfl) ?_
          refine snil ?_
          refine f_back ⟨(j + 1, u + 1), ?_, ?_, le_ofL ⟨rfl, rfl, (by rw [hft]; rfl), rfl, rfl, rfl, trivial⟩ rfl⟩
          · show j + 1 ≤ _
            omega
          · show _ - (j + 1) < _ - j
            omega
        · intro hc3
          try simp only [bs] at hc3
          refine f_exit ?_
          show AWs _ _ _ _ _
          refine f_seq ?_
          refine f_region ?_
          refine scons (CStep.step (PStep.c (p_move (y := .row _ _) rfl (Sees.of rfl) rfl)) rfl rfl rfl rfl) ?_
          refine scons (CStep.step (PStep.c (p_assign (y := .row _ _) rfl (Sees.of rfl) rfl)) rfl rfl rfl rfl) ?_
          refine snil ?_
          refine f_ret ?_
          refine endsN_ret (resN_eq (resN_row rfl rfl rfl rfl) ?_)
          rw [List.take_of_length_le (by omega)]

theorem concatI2 (a b : List Int) (h : a.length + b.length ≤ 1000000) : SpecN Go.Proofs.Tryz.prog 142 [.val (intss [a, b])] 3 1 8 di (a ++ b) := by
  have := concatI_spec [a, b] (by simpa using h)
  simpa using this
theorem resolve_spec (a b : List Int) (v : Int) (hab : ∀ x ∈ a ++ b, -9223372036854775808 < x ∧ x ≤ 9223372036854775807) (hl : a.length + b.length ≤ 1000000) :
    Spec Go.Proofs.Tryz.prog 102 [.val (ints a), .val (ints b), iv v] (two (ints ((Sp.resolve a b v).getD [])) (D.bool (Sp.resolve a b v).isSome)) := by
  refine spec_of' Go.Proofs.Tryz.func102 rfl Go.Proofs.Tryz.ntmps102 rfl ?_
  refine f_seq ?_
  refine f_region ?_
  refine scons (CStep.step (PStep.c (p_assign (y := .emp) rfl (Sees.of rfl) rfl)) rfl rfl rfl rfl) ?_
  refine scons (CStep.step (PStep.c (p_assign (y := .val _) rfl (Sees.of rfl) rfl)) rfl rfl rfl rfl) ?_
  refine snil ?_
  refine f_seq ?_
  refine f_region ?_
  refine scons (CStep.step (PStep.c (p_assign (y := .emp) rfl (Sees.of rfl) rfl)) rfl rfl rfl rfl) ?_
  refine snil ?_
  refine f_seq ?_
  refine f_seq ?_
  refine f_region ?_
  refine scons (CStep.step (PStep.c (p_move (y := .val _) rfl (Sees.of rfl) rfl)) rfl rfl rfl rfl) ?_
  refine scons (CStep.step (PStep.c (p_move (y := .val _) rfl (Sees.of rfl) rfl)) rfl rfl rfl rfl) ?_
  refine scons (CStep.step (c_buildSlice (f := ints) (za := []) (xs := [.tmp 11, .tmp 12]) rfl rfl wBet2_isl23 wBet2_siz22 wBet2_zer22 rfl rfl ⟨_, _, rfl, (Sees.of rfl), rfl, rfl, ⟨_, _, rfl, (Sees.of rfl), rfl, rfl, rfl⟩⟩) rfl rfl rfl rfl) ?_
  refine scons (CStep.step (c_call rfl wBet2_isf142 ⟨_, _, rfl, (Sees.of rfl), rfl, rfl⟩ ((concatI2 a b hl).spec 0)) rfl rfl rfl rfl) ?_
  refine scons (CStep.step (PStep.c (p_len rfl wBet2_isl22 (Sees.of rfl))) rfl rfl rfl rfl) ?_
  refine scons (CStep.step (PStep.c (p_move (y := .val _) rfl (Sees.of rfl) rfl)) rfl rfl rfl rfl) ?_
  refine snil ?_
  refine f_block ?_
  refine f_loop (α := Nat × Nat × List Int) (fun (i, u, out) => i ≤ (a ++ b).length ∧ Sp.resGo v [] (a ++ b) = Sp.resGo v out ((a ++ b).drop i) ∧ out.length ≤ i ∧ ∀ x ∈ out, -9223372036854775808 < x ∧ x ≤ 9223372036854775807) (fun (i, u, out) => [(16, iv i), (14, .val (ints (a ++ b))), (15, iv (a ++ b).length), (8, .row 30000 u), (30000, .arr u 3 1 8 di 0 out), (2, iv v)]) (fun (i, u, out) => (a ++ b).length - i) (0, 0, []) ?_ ?_ ?_
  · exact ⟨Nat.zero_le _, by rw [List.drop_zero], Nat.le_refl _, fun x hx => (List.not_mem_nil hx).elim⟩
  · exact Le.trans (GLe.le (g_adopt (ob := 30000) (k := 8) 3 1 8 di 0 rfl rfl rfl rfl)) (le_ofL ⟨rfl, rfl, rfl, rfl, rfl, rfl, trivial⟩ rfl)
  · rintro ⟨i, u, out⟩ ⟨hi, hg, hol, ho⟩
    have hi : i ≤ (a ++ b).length := hi
    have hol : out.length ≤ i := hol
    have ho : ∀ x ∈ out, -9223372036854775808 < x ∧ x ≤ 9223372036854775807 := ho
    have hg : Sp.resGo v [] (a ++ b) = Sp.resGo v out ((a ++ b).drop i) := hg
    refine f_seq ?_
    refine f_region ?_
    refine scons (CStep.step (PStep.c (p_lss rfl (Sees.of rfl) (Sees.of rfl))) rfl rfl rfl rfl) ?_
    refine snil ?_
    refine f_seq ?_
    refine f_cond rfl ?_ ?_
    · intro hc1
      try simp only [bs] at hc1
      refine f_skip ?_
      refine f_seq ?_
      refine f_block ?_
      refine f_seq ?_
      have hx := hab _ (Sp.getD_mem (a ++ b) i 0 (by omega))
      have hab2 : (a ++ b).length = a.length + b.length := List.length_append
      refine f_region ?_
      refine scons (CStep.step (PStep.c ((by first | exact p_indexN rfl wBet2_isl22 wBet2_siz3 (Sees.of rfl) (Sees.of rfl) (by omega) | exact p_index rfl wBet2_isl22 wBet2_siz3 (Sees.of rfl) (Sees.of rfl) (by omega) (by omega)))) rfl rfl rfl rfl) ?_
      refine scons (CStep.step (PStep.c (p_load rfl wBet2_agg3 (Sees.of rfl) rfl)) rfl rfl rfl rfl) ?_
      refine scons (CStep.step (PStep.c (p_assign (y := .val _) rfl (Sees.of rfl) rfl)) rfl rfl rfl rfl) ?_
      refine snil ?_
      refine f_block ?_
      refine f_seq ?_
      refine f_region ?_
      refine scons (CStep.step (PStep.c (p_move (y := .val _) rfl (Sees.of rfl) rfl)) rfl rfl rfl rfl) ?_
      refine scons (CStep.step (c_call rfl wBet2_isf43 ⟨_, _, rfl, (Sees.of rfl), rfl, rfl⟩ (var_spec ((a ++ b).getD i 0) (by omega))) rfl rfl rfl rfl) ?_
      refine scons (CStep.step (PStep.c (p_move (y := .val _) rfl (Sees.of rfl) rfl)) rfl rfl rfl rfl) ?_
      refine scons (CStep.step (PStep.c (p_eql rfl (Sees.of rfl) (Sees.of rfl))) rfl rfl rfl rfl) ?_
      refine scons (CStep.step (PStep.c (p_move (y := .val _) rfl (Sees.of rfl) rfl)) rfl rfl rfl rfl) ?_
      refine scons (CStep.guard rfl rfl rfl (fun hg0 => PStep.c (p_move (y := .row _ _) rfl (Sees.of rfl) rfl)) rfl rfl rfl rfl rfl) ?_
      refine scons (CStep.guard rfl rfl rfl (fun hg0 => PStep.c (p_move (y := .val _) rfl (Sees.of rfl) rfl)) rfl rfl rfl rfl rfl) ?_
      refine scons (CStep.guard rfl rfl rfl (fun hg0 => c_callS (q := true) rfl wBet2_isf81 (hasI_spec out ((a ++ b).getD i 0)) (sa_cons (sh_row (Sees.gv' rfl hg0) rfl) (sa_cons (sh_of (Sees.gv' rfl hg0) rfl) (sa_nil))) rfl) rfl rfl rfl rfl rfl) ?_
      refine scons (CStep.step (PStep.c (p_or rfl (Sees.of rfl) (Sees.of rfl) (fun h => Sees.gv' rfl (beq_of_eq h)))) rfl rfl rfl rfl) ?_
      refine scons (CStep.step (PStep.c (p_assign (y := .val _) rfl (Sees.of rfl) rfl)) rfl rfl rfl rfl) ?_
      refine snil ?_
      refine f_cond rfl ?_ ?_
      · intro hc2
        try simp only [bs] at hc2
        refine f_skip ?_
        refine f_nil ?_
        show AWs _ _ _ _ _
        refine f_nil ?_
        show AWs _ _ _ _ _
        refine f_region ?_
        refine scons (CStep.step (PStep.c (p_add rfl (Sees.of rfl) (Sees.of rfl) (by omega))) rfl rfl rfl rfl) ?_
        refine scons (CStep.step (PStep.c (p_move (y := .val _) rfl (Sees.of rfl) rfl)) rfl rfl rfl rfl) ?_
        refine snil ?_
        refine f_back ⟨(i + 1, u, out), ?_, ?_, le_ofL ⟨rfl, rfl, rfl, rfl, rfl, rfl, trivial⟩ rfl⟩
        · refine ⟨by show i + 1 ≤ _; omega, hg.trans (Sp.resGo_skip (by omega) (by simpa [Sp.av] using hc2)), by show out.length ≤ i + 1; omega, ho⟩
        · show _ - (i + 1) < _ - i
          omega
      · intro hc2
        try simp only [bs] at hc2
        refine f_seq ?_
        refine f_region ?_
        refine scons (CStep.step (PStep.c (p_move (y := .row _ _) rfl (Sees.of rfl) rfl)) rfl rfl rfl rfl) ?_
        refine scons (CStep.step (PStep.c (p_move (y := .val _) rfl (Sees.of rfl) rfl)) rfl rfl rfl rfl) ?_
        refine scons (CStep.step (PStep.c (p_neg rfl (Sees.of rfl) (by omega))) rfl rfl rfl rfl) ?_
        refine scons (CStep.step (c_callS (q := true) rfl wBet2_isf81 (hasI_spec out (-((a ++ b).getD i 0))) (sa_cons (sh_row (Sees.of rfl) rfl) (sa_cons (sh_of (Sees.of rfl) rfl) (sa_nil))) rfl) rfl rfl rfl rfl) ?_
        refine scons (CStep.step (PStep.c (p_assign (y := .val _) rfl (Sees.of rfl) rfl)) rfl rfl rfl rfl) ?_
        refine snil ?_
        refine f_cond rfl ?_ ?_
        · intro hc3
          try simp only [bs] at hc3
          refine f_seq ?_
          refine f_region ?_
          refine scons (CStep.step (PStep.c (p_assign (y := .emp) rfl (Sees.of rfl) rfl)) rfl rfl rfl rfl) ?_
          refine scons (CStep.step (PStep.c (p_assign (y := .val _) rfl (Sees.of rfl) rfl)) rfl rfl rfl rfl) ?_
          refine snil ?_
          refine f_ret ?_
          refine ends_ret (res_eq (res2 rfl (res_tmp rfl (Sees.emp rfl 1 di 0)) (res_tmp rfl (Sees.of rfl))) ?_)
          rw [Sp.resolve, hg, Sp.resGo_none (by omega) (by simpa [Sp.av] using hc2) (by simpa using hc3)]
          rfl
        · intro hc3
          try simp only [bs] at hc3
          refine f_region ?_
          refine scons (CStep.step (PStep.c (p_move (y := .row _ _) rfl (Sees.of rfl) rfl)) rfl rfl rfl rfl) ?_
          refine scons (CStep.step (PStep.c (p_move (y := .val _) rfl (Sees.of rfl) rfl)) rfl rfl rfl rfl) ?_
          refine scons (CStep.step (c_buildSlice (f := di) (za := 0) (xs := [.tmp 21]) rfl rfl wBet2_isl22 wBet2_siz3 wBet2_zer3 rfl rfl ⟨_, _, rfl, (Sees.of rfl), rfl, rfl, rfl⟩) rfl rfl rfl rfl) ?_
          refine scons (r_appendR (ob := 30000) rfl wBet2_isl22 wBet2_siz3 wBet2_byt3 wBet2_zer3 rfl rfl (Sees.of rfl) rfl (Sees.of rfl) (by simp only [List.length_cons, List.length_nil, List.length_append] at *; omega) (by simp only [List.length_cons, List.length_nil, List.length_append] at *; omega) rfl rfl rfl rfl rfl) ?_
          refine scons (CStep.step (PStep.c (p_assign (y := .row _ _) rfl (Sees.of rfl) rfl)) rfl rfl rfl rfl) ?_
          refine snil ?_
          refine f_nil ?_
          show AWs _ _ _ _ _
          refine f_nil ?_
          show AWs _ _ _ _ _
          refine f_region ?_
          refine scons (CStep.step (PStep.c (p_add rfl (Sees.of rfl) (Sees.of rfl) (by omega))) rfl rfl rfl rfl) ?_
          refine scons (CStep.step (PStep.c (p_move (y := .val _) rfl (Sees.of rfl) rfl)) rfl rfl rfl rfl) ?_
          refine snil ?_
          refine f_back ⟨(i + 1, u + 1, out ++ [((a ++ b).getD i 0)]), ?_, ?_, le_ofL ⟨rfl, rfl, rfl, rfl, rfl, rfl, trivial⟩ rfl⟩
          · refine ⟨by show i + 1 ≤ _; omega, hg.trans (Sp.resGo_add (by omega) (by simpa [Sp.av] using hc2) (by simpa using hc3)), by show (out ++ [((a ++ b).getD i 0)]).length ≤ i + 1; rw [List.length_append]; simp; omega, fun x h => ?_⟩
            rcases List.mem_append.1 h with h | h
            · exact ho x h
            · rw [List.mem_singleton.1 h]; exact hx
          · show _ - (i + 1) < _ - i
            omega
    · intro hc1
      try simp only [bs] at hc1
      refine f_exit ?_
      show AWs _ _ _ _ _
      refine f_seq ?_
      refine f_le (GLe.le (g_freeze (k := 8) (o1 := 30000) rfl rfl rfl rfl)) ?_ (by simp)
      refine f_region ?_
      refine scons (CStep.step (PStep.c (p_move (y := .val _) rfl (Sees.of rfl) rfl)) rfl rfl rfl rfl) ?_
      refine scons (CStep.step (c_call rfl wBet2_isf51 ⟨_, _, rfl, (Sees.of rfl), rfl, rfl⟩ (sorted_spec out (by rw [List.length_append] at hi; omega) ho)) rfl rfl rfl rfl) ?_
      refine scons (CStep.step (PStep.c (p_assign (y := .val _) rfl (Sees.of rfl) rfl)) rfl rfl rfl rfl) ?_
      refine scons (CStep.step (PStep.c (p_assign (y := .val _) rfl (Sees.of rfl) rfl)) rfl rfl rfl rfl) ?_
      refine snil ?_
      refine f_ret ?_
      refine ends_ret (res_eq (res2 rfl (res_tmp rfl (Sees.of rfl)) (res_tmp rfl (Sees.of rfl))) ?_)
      rw [Sp.resolve, hg, Sp.resGo_end (by omega)]
      rfl

end Go.Um
