/- Walks of Go functions of this seat, each by its contract. No condition beyond what each theorem says. -/
import Derived.Test.YtpjenbbalengoaaWCd7
import Derived.Test.YtpjenbbalengoaaSq8
import Derived.Test.YtpjenbbalengoaaProg
import Derived.KernelRfl
set_option maxRecDepth 4000
namespace Go.Um
open Go Go.RowKit

theorem wCd8_agg119 : IsAgg Go.Proofs.Try.prog 119 true := by unfold IsAgg; kernel_rfl
theorem wCd8_agg26 : IsAgg Go.Proofs.Try.prog 26 true := by unfold IsAgg; kernel_rfl
theorem wCd8_agg3 : IsAgg Go.Proofs.Try.prog 3 false := by unfold IsAgg; kernel_rfl
theorem wCd8_agg33 : IsAgg Go.Proofs.Try.prog 33 false := by unfold IsAgg; kernel_rfl
theorem wCd8_agg37 : IsAgg Go.Proofs.Try.prog 37 false := by unfold IsAgg; kernel_rfl
theorem wCd8_agg39 : IsAgg Go.Proofs.Try.prog 39 true := by unfold IsAgg; kernel_rfl
theorem wCd8_agg41 : IsAgg Go.Proofs.Try.prog 41 true := by unfold IsAgg; kernel_rfl
theorem wCd8_agg44 : IsAgg Go.Proofs.Try.prog 44 false := by unfold IsAgg; kernel_rfl
theorem wCd8_byt33 : Bytes Go.Proofs.Try.prog 33 24 := by unfold Bytes; kernel_rfl
theorem wCd8_fld119_0 : IsField Go.Proofs.Try.prog 119 0 0 3 := by unfold IsField; kernel_rfl
theorem wCd8_fld119_1 : IsField Go.Proofs.Try.prog 119 1 1 33 := by unfold IsField; kernel_rfl
theorem wCd8_fld26_0 : IsField Go.Proofs.Try.prog 26 0 0 3 := by unfold IsField; kernel_rfl
theorem wCd8_fld39_0 : IsField Go.Proofs.Try.prog 39 0 0 3 := by unfold IsField; kernel_rfl
theorem wCd8_fld39_1 : IsField Go.Proofs.Try.prog 39 1 1 37 := by unfold IsField; kernel_rfl
theorem wCd8_fld46_0 : IsField Go.Proofs.Try.prog 46 0 0 3 := by unfold IsField; kernel_rfl
theorem wCd8_fld46_2 : IsField Go.Proofs.Try.prog 46 2 2 44 := by unfold IsField; kernel_rfl
theorem wCd8_fld46_3 : IsField Go.Proofs.Try.prog 46 3 3 33 := by unfold IsField; kernel_rfl
theorem wCd8_isf116 : IsFn Go.Proofs.Try.prog 116 := by unfold IsFn; kernel_rfl
theorem wCd8_isf118 : IsFn Go.Proofs.Try.prog 118 := by unfold IsFn; kernel_rfl
theorem wCd8_isf119 : IsFn Go.Proofs.Try.prog 119 := by unfold IsFn; kernel_rfl
theorem wCd8_isf125 : IsFn Go.Proofs.Try.prog 125 := by unfold IsFn; kernel_rfl
theorem wCd8_isf126 : IsFn Go.Proofs.Try.prog 126 := by unfold IsFn; kernel_rfl
theorem wCd8_isf19 : IsFn Go.Proofs.Try.prog 19 := by unfold IsFn; kernel_rfl
theorem wCd8_isf20 : IsFn Go.Proofs.Try.prog 20 := by unfold IsFn; kernel_rfl
theorem wCd8_isf21 : IsFn Go.Proofs.Try.prog 21 := by unfold IsFn; kernel_rfl
theorem wCd8_isf23 : IsFn Go.Proofs.Try.prog 23 := by unfold IsFn; kernel_rfl
theorem wCd8_isf31 : IsFn Go.Proofs.Try.prog 31 := by unfold IsFn; kernel_rfl
theorem wCd8_isf79 : IsFn Go.Proofs.Try.prog 79 := by unfold IsFn; kernel_rfl
theorem wCd8_isf80 : IsFn Go.Proofs.Try.prog 80 := by unfold IsFn; kernel_rfl
theorem wCd8_isf81 : IsFn Go.Proofs.Try.prog 81 := by unfold IsFn; kernel_rfl
theorem wCd8_isl33 : IsSlice Go.Proofs.Try.prog 33 3 := by unfold IsSlice; kernel_rfl
theorem wCd8_isl37 : IsSlice Go.Proofs.Try.prog 37 33 := by unfold IsSlice; kernel_rfl
theorem wCd8_isl44 : IsSlice Go.Proofs.Try.prog 44 119 := by unfold IsSlice; kernel_rfl
theorem wCd8_plc26 : Places Go.Proofs.Try.prog 26 [(0, 1), (1, 1)] := by unfold Places; kernel_rfl
theorem wCd8_siz119 : Size Go.Proofs.Try.prog 119 9 := by unfold Size; kernel_rfl
theorem wCd8_siz26 : Size Go.Proofs.Try.prog 26 2 := by unfold Size; kernel_rfl
theorem wCd8_siz3 : Size Go.Proofs.Try.prog 3 1 := by unfold Size; kernel_rfl
theorem wCd8_siz33 : Size Go.Proofs.Try.prog 33 1 := by unfold Size; kernel_rfl
theorem wCd8_siz37 : Size Go.Proofs.Try.prog 37 1 := by unfold Size; kernel_rfl
theorem wCd8_siz39 : Size Go.Proofs.Try.prog 39 2 := by unfold Size; kernel_rfl
theorem wCd8_siz41 : Size Go.Proofs.Try.prog 41 4 := by unfold Size; kernel_rfl
theorem wCd8_siz44 : Size Go.Proofs.Try.prog 44 1 := by unfold Size; kernel_rfl
theorem wCd8_siz46 : Size Go.Proofs.Try.prog 46 5 := by unfold Size; kernel_rfl
def wCd8_z26 : D := .cons (.int .i64 0) (.cons (.int .i64 0) (.nil))
theorem wCd8_zch26 : ∀ (ok : Nat → Prop) (w : World), R Go.Proofs.Try.prog wCd8_z26 ok w (Value.cells (.agg #[(.int .i64 0), (.int .i64 0)])).toList := fun _ _ => z_int (z_int (z_nil))
theorem wCd8_zer119 : Zero Go.Proofs.Try.prog 119 (.agg #[(.int .i64 0), (.slice none 0 0), (.slice none 0 0), (.int .i64 0), (.int .i64 0), (.int .i64 0), (.slice none 0 0), (.int .i64 0), (.int .i64 0)]) := by unfold Zero; kernel_rfl
theorem wCd8_zer26 : Zero Go.Proofs.Try.prog 26 (.agg #[(.int .i64 0), (.int .i64 0)]) := by unfold Zero; kernel_rfl
theorem wCd8_zer33 : Zero Go.Proofs.Try.prog 33 (.slice none 0 0) := by unfold Zero; kernel_rfl
theorem wCd8_zer46 : Zero Go.Proofs.Try.prog 46 (.agg #[(.int .i64 0), (.slice none 0 0), (.slice none 0 0), (.slice none 0 0), (.int .i64 0)]) := by unfold Zero; kernel_rfl

theorem cloneII_spec (a : List (List Int)) (hla : a.length ≤ 1000000) :
    SpecN Go.Proofs.Try.prog 119 [.val (intss a)] 33 1 24 ints a := by
  refine specN_of' Go.Proofs.Try.func119 rfl Go.Proofs.Try.ntmps119 rfl ?_
  refine f_seq ?_
  refine f_wf (.tmp 0) rfl (fun hwf => ?_) (by simp)
  have hlen : a.length ≤ 140737488355328 := hwf.1
  clear hwf
  refine f_sl 0 rfl rfl (fun b hb => ?_) (by simp)
  refine f_region ?_
  refine scons (CStep.step (PStep.c (p_assign (y := .emp) rfl (Sees.of rfl) rfl)) rfl rfl rfl rfl) ?_
  refine snil ?_
  refine f_seq ?_
  refine f_seq ?_
  refine f_region ?_
  refine scons (CStep.step (PStep.c (p_move (y := .val _) rfl (Sees.of rfl) rfl)) rfl rfl rfl rfl) ?_
  refine scons (CStep.step (PStep.c (p_eqlNil rfl wCd8_isl37 rfl rfl)) rfl rfl rfl rfl) ?_
  refine snil ?_
  refine f_cond rfl ?_ ?_
  · intro hc1
    try simp only [bs] at hc1
    refine f_seq ?_
    refine f_region ?_
    refine scons (CStep.step (PStep.c (p_assign (y := .emp) rfl (Sees.of rfl) rfl)) rfl rfl rfl rfl) ?_
    refine snil ?_
    refine f_ret ?_
    refine endsN_ret (resN_eq (resN_emp rfl rfl rfl rfl) ?_)
    exact (hb hc1).symm
  · intro hc1
    try simp only [bs] at hc1
    refine f_skip ?_
    refine f_seq ?_
    refine f_region ?_
    refine scons (r_buildRow (f := ints) (za := []) (xs := []) (by_ := 24) (ob := 10005) rfl rfl wCd8_isl37 wCd8_siz33 wCd8_zer33 rfl rfl (by decide) rfl rfl rfl rfl rfl rfl) ?_
    refine scons (CStep.step (PStep.c (p_move (y := .val _) rfl (Sees.of rfl) rfl)) rfl rfl rfl rfl) ?_
    refine scons (r_appendR (ob := 10005) rfl wCd8_isl37 wCd8_siz33 wCd8_byt33 wCd8_zer33 rfl rfl (Sees.of rfl) rfl (Sees.sl rfl) (by simp only [List.length_cons, List.length_nil, List.length_append]; omega) (by simp only [List.length_cons, List.length_nil, List.length_append]; omega) rfl rfl rfl rfl rfl) ?_
    refine scons (CStep.step (PStep.c (p_assign (y := .row _ _) rfl (Sees.of rfl) rfl)) rfl rfl rfl rfl) ?_
    refine snil ?_
    refine f_ret ?_
    refine endsN_ret (resN_eq (resN_row rfl rfl rfl rfl) ?_)
    rfl

theorem checked_spec (n : Int) (ls st : List (List Int)) (h : Sp.Taken n ls st) :
    Spec Go.Proofs.Try.prog 118 [.val (cnf n ls), .val (stps (lrn st))] (fault 0 0) := by
  refine spec_of' Go.Proofs.Try.func118 rfl Go.Proofs.Try.ntmps118 rfl ?_
  refine f_seq ?_
  have hsl := Sp.lrn_len st
  have hll := h.ll
  have hnn := (Sp.check_ok h.ck).1
  have hz := Sp.check_zero h.ck
  refine f_region ?_
  refine scons (r_box (ob := 10002) rfl (Sees.of rfl) rfl rfl rfl rfl rfl rfl) ?_
  refine scons (r_alloc (ob := 10004) rfl wCd8_zer26 rfl rfl rfl rfl rfl rfl) ?_
  refine snil ?_
  refine f_seq ?_
  refine f_seq ?_
  refine f_region ?_
  refine scons (CStep.step (PStep.c (p_loadBS rfl wCd8_agg39 wCd8_siz39 (Sees.of rfl) rfl rfl rfl)) rfl rfl rfl rfl) ?_
  refine scons (CStep.step (c_call rfl wCd8_isf79 ⟨_, _, rfl, (Sees.of rfl), rfl, rfl⟩ (ccheck_spec n ls)) rfl rfl rfl rfl) ?_
  refine scons (r_alloc (ob := 10005) rfl wCd8_zer26 rfl rfl rfl rfl rfl rfl) ?_
  refine scons (r_storeS rfl wCd8_siz26 rfl rfl rfl (Sees.of rfl) rfl (Sees.of rfl) rfl rfl rfl rfl) ?_
  refine snil ?_
  refine f_seq ?_
  refine f_region ?_
  refine scons (CStep.step (PStep.c (p_fieldRef rfl wCd8_fld26_0 wCd8_siz3 rfl (Sees.of rfl) rfl)) rfl rfl rfl rfl) ?_
  refine scons (CStep.step (PStep.c (p_loadB (y := .val _) rfl wCd8_agg3 (Sees.of rfl) rfl rfl rfl rfl)) rfl rfl rfl rfl) ?_
  refine scons (CStep.step (PStep.c (p_neq rfl (Sees.of rfl) (Sees.of rfl))) rfl rfl rfl rfl) ?_
  refine snil ?_
  refine f_cond rfl ?_ ?_
  · intro hc1
    try simp only [bs] at hc1
    exact absurd h.ck hc1
  · intro hc1
    try simp only [bs] at hc1
    refine f_skip ?_
    refine f_seq ?_
    refine f_seq ?_
    refine f_region ?_
    refine scons (CStep.step (PStep.c (p_move (y := .val _) rfl (Sees.of rfl) rfl)) rfl rfl rfl rfl) ?_
    refine scons (CStep.step (PStep.c (p_len rfl wCd8_isl44 (Sees.of rfl))) rfl rfl rfl rfl) ?_
    refine scons (CStep.step (PStep.c (p_gtr rfl (Sees.of rfl) (Sees.of rfl))) rfl rfl rfl rfl) ?_
    refine snil ?_
    refine f_cond rfl ?_ ?_
    · intro hc2
      try simp only [bs] at hc2
      omega
    · intro hc2
      try simp only [bs] at hc2
      refine f_skip ?_
      refine f_seq ?_
      refine f_seq ?_
      refine f_region ?_
      refine scons (CStep.step (PStep.c (p_move (y := .val _) rfl (Sees.of rfl) rfl)) rfl rfl rfl rfl) ?_
      refine scons (CStep.step (PStep.c (p_len rfl wCd8_isl44 (Sees.of rfl))) rfl rfl rfl rfl) ?_
      refine scons (CStep.step (PStep.c (p_move (y := .val _) rfl (Sees.of rfl) rfl)) rfl rfl rfl rfl) ?_
      refine snil ?_
      refine f_block ?_
      refine f_loop (α := Nat) (fun i => i ≤ st.length) (fun i => [(22, iv i), (2, .ref 10002 0 0), (4, .ref 10004 0 0), (20, .val (stps (lrn st))), (21, iv (lrn st).length), (10002, .box 0 (.ccons (iv n) (.ccons (.val (intss ls)) .cnil))), (10004, .box 0 (.ccons (iv 0) (.ccons (iv 0) .cnil)))]) (fun i => st.length - i) 0 ?_ ?_ ?_
      · exact Nat.zero_le _
      · exact le_ofL ⟨rfl, rfl, rfl, rfl, rfl, rfl, rfl, trivial⟩ rfl
      · rintro i hi
        refine f_seq ?_
        refine f_region ?_
        refine scons (CStep.step (PStep.c (p_lss rfl (Sees.of rfl) (Sees.of rfl))) rfl rfl rfl rfl) ?_
        refine snil ?_
        refine f_seq ?_
        refine f_cond rfl ?_ ?_
        · intro hc3
          try simp only [bs] at hc3
          refine f_skip ?_
          refine f_seq ?_
          refine f_block ?_
          refine f_seq ?_
          refine f_region ?_
          refine scons (CStep.step (PStep.c (p_move (y := .val _) rfl (Sees.of rfl) rfl)) rfl rfl rfl rfl) ?_
          refine scons (CStep.step (PStep.c ((by first | exact p_indexN rfl wCd8_isl44 wCd8_siz119 (Sees.of rfl) (Sees.of rfl) (by omega) | exact p_index rfl wCd8_isl44 wCd8_siz119 (Sees.of rfl) (Sees.of rfl) (by omega) (by omega)))) rfl rfl rfl rfl) ?_
          refine scons (CStep.step (PStep.c (p_loadS rfl wCd8_agg119 wCd8_siz119 (Sees.of rfl) ⟨rfl, fun h => R_len rfl h⟩)) rfl rfl rfl rfl) ?_
          refine scons (r_alloc (ob := 10007) rfl wCd8_zer119 rfl rfl rfl rfl rfl rfl) ?_
          refine scons (CStep.step (PStep.c (p_assign (y := .val _) rfl (Sees.of rfl) rfl)) rfl rfl rfl rfl) ?_
          refine scons (r_storeS rfl wCd8_siz119 rfl rfl rfl (Sees.of rfl) rfl (Sees.of rfl) rfl rfl rfl rfl) ?_
          refine snil ?_
          refine f_seq ?_
          refine f_seq ?_
          rw [Sp.lrn_at (by omega)]
          have hwr := h.wr _ (Sp.getD_mem st i [] (by omega))
          refine f_region ?_
          refine scons (CStep.step (PStep.c (p_fieldRef rfl wCd8_fld119_0 wCd8_siz3 rfl (Sees.of rfl) rfl)) rfl rfl rfl rfl) ?_
          refine scons (CStep.step (PStep.c (p_loadB (y := .val _) rfl wCd8_agg3 (Sees.of rfl) rfl rfl rfl rfl)) rfl rfl rfl rfl) ?_
          refine scons (CStep.step (PStep.c (p_neq rfl (Sees.of rfl) (Sees.of rfl))) rfl rfl rfl rfl) ?_
          refine scons (CStep.step (PStep.c (p_move (y := .val _) rfl (Sees.of rfl) rfl)) rfl rfl rfl rfl) ?_
          refine scons (CStep.guard rfl rfl rfl (fun hg0 => PStep.c (p_fieldRef rfl wCd8_fld119_0 wCd8_siz3 rfl (Sees.of rfl) rfl)) rfl rfl rfl rfl rfl) ?_
          refine scons (CStep.guard rfl rfl rfl (fun hg0 => PStep.c (p_loadB (y := .val _) rfl wCd8_agg3 (Sees.gv' rfl hg0) rfl rfl rfl rfl)) rfl rfl rfl rfl rfl) ?_
          refine scons (CStep.guard rfl rfl rfl (fun hg0 => PStep.c (p_neq rfl (Sees.gv' rfl hg0) (Sees.of rfl))) rfl rfl rfl rfl rfl) ?_
          refine scons (CStep.step (PStep.c (p_and rfl (Sees.of rfl) (fun h => Sees.gv' rfl (beq_of_eq h)) (Sees.of rfl))) rfl rfl rfl rfl) ?_
          refine snil ?_
          refine f_cond rfl ?_ ?_
          · intro hc4
            try simp only [bs] at hc4
            exact absurd trivial hc4.1
          · intro hc4
            try simp only [bs] at hc4
            refine f_skip ?_
            refine f_seq ?_
            refine f_region ?_
            refine scons (CStep.step (PStep.c (p_fieldRef rfl wCd8_fld119_1 wCd8_siz33 rfl (Sees.of rfl) rfl)) rfl rfl rfl rfl) ?_
            refine scons (CStep.step (PStep.c (p_loadB (y := .val _) rfl wCd8_agg33 (Sees.of rfl) rfl rfl rfl rfl)) rfl rfl rfl rfl) ?_
            refine scons (CStep.step (PStep.c (p_fieldRef rfl wCd8_fld39_0 wCd8_siz3 rfl (Sees.of rfl) rfl)) rfl rfl rfl rfl) ?_
            refine scons (CStep.step (PStep.c (p_loadB (y := .val _) rfl wCd8_agg3 (Sees.of rfl) rfl rfl rfl rfl)) rfl rfl rfl rfl) ?_
            refine scons (CStep.step (c_call rfl wCd8_isf116 ⟨_, _, rfl, (Sees.of rfl), rfl, ⟨_, _, rfl, (Sees.of rfl), rfl, rfl⟩⟩ (bad_spec (st.getD i []) n (by omega))) rfl rfl rfl rfl) ?_
            refine scons (CStep.step (PStep.c (p_move (y := .val _) rfl (Sees.of rfl) rfl)) rfl rfl rfl rfl) ?_
            refine scons (CStep.step (PStep.c (p_extract rfl (Sees.of rfl) rfl)) rfl rfl rfl rfl) ?_
            refine scons (CStep.step (PStep.c (p_extract rfl (Sees.of rfl) rfl)) rfl rfl rfl rfl) ?_
            refine scons (CStep.step (PStep.c (p_assign (y := .val _) rfl (Sees.of rfl) rfl)) rfl rfl rfl rfl) ?_
            refine scons (CStep.step (PStep.c (p_assign (y := .val _) rfl (Sees.of rfl) rfl)) rfl rfl rfl rfl) ?_
            refine snil ?_
            refine f_seq ?_
            refine f_region ?_
            refine scons (CStep.step (PStep.c (p_move (y := .val _) rfl (Sees.of rfl) rfl)) rfl rfl rfl rfl) ?_
            refine scons (CStep.step (PStep.c (p_neq rfl (Sees.of rfl) (Sees.of rfl))) rfl rfl rfl rfl) ?_
            refine snil ?_
            refine f_cond rfl ?_ ?_
            · intro hc5
              try simp only [bs] at hc5
              exact absurd hwr.1 hc5
            · intro hc5
              try simp only [bs] at hc5
              refine f_skip ?_
              refine f_nil ?_
              show AWs _ _ _ _ _
              refine f_region ?_
              refine scons (CStep.step (PStep.c (p_add rfl (Sees.of rfl) (Sees.of rfl) (by omega))) rfl rfl rfl rfl) ?_
              refine scons (CStep.step (PStep.c (p_move (y := .val _) rfl (Sees.of rfl) rfl)) rfl rfl rfl rfl) ?_
              refine snil ?_
              refine f_back ⟨i + 1, ?_, ?_, le_ofL ⟨rfl, rfl, rfl, rfl, rfl, rfl, rfl, trivial⟩ rfl⟩
              · omega
              · omega
        · intro hc3
          try simp only [bs] at hc3
          refine f_exit ?_
          show AWs _ _ _ _ _
          refine f_seq ?_
          refine f_region ?_
          refine scons (CStep.step (PStep.c (p_build rfl wCd8_plc26 wCd8_zer26 (by decide) wCd8_zch26 rfl rfl)) rfl rfl rfl rfl) ?_
          refine scons (r_storeS rfl wCd8_siz26 rfl rfl rfl (Sees.of rfl) rfl (Sees.of rfl) rfl rfl rfl rfl) ?_
          refine snil ?_
          refine f_ret ?_
          refine ends_ret (res_eq (res1 rfl (res_cell (by rfl) rfl rfl wCd8_agg26 wCd8_siz26 rfl rfl)) ?_)
          rfl

theorem why2_spec (l : List Int) :
    Spec Go.Proofs.Try.prog 126 [.val (ints l)] (D.bool (decide (l = []))) := by
  refine spec_of' Go.Proofs.Try.func126 rfl Go.Proofs.Try.ntmps126 rfl ?_
  refine f_seq ?_
  refine f_region ?_
  refine scons (CStep.step (PStep.c (p_assign (y := .val _) rfl (Sees.of rfl) rfl)) rfl rfl rfl rfl) ?_
  refine snil ?_
  refine f_seq ?_
  refine f_region ?_
  refine scons (CStep.step (PStep.c (p_move (y := .val _) rfl (Sees.of rfl) rfl)) rfl rfl rfl rfl) ?_
  refine scons (CStep.step (PStep.c (p_len rfl wCd8_isl33 (Sees.of rfl))) rfl rfl rfl rfl) ?_
  refine scons (CStep.step (PStep.c (p_eql rfl (Sees.of rfl) (Sees.of rfl))) rfl rfl rfl rfl) ?_
  refine scons (CStep.step (PStep.c (p_assign (y := .val _) rfl (Sees.of rfl) rfl)) rfl rfl rfl rfl) ?_
  refine snil ?_
  refine f_ret ?_
  refine ends_ret (res_eq (res1 rfl (res_tmp rfl (Sees.of rfl))) ?_)
  simp

set_option maxHeartbeats 1000000 in
theorem Why_spec (n : Int) (ls st : List (List Int)) (h : Sp.Taken n ls st) (h0 : [] ∈ ls ++ st) :
    Spec Go.Proofs.Try.prog 81 [.val (cnf n ls), .val (stps (lrn st))] (two (di (-1)) (fault 0 0)) := by
  refine spec_of' Go.Proofs.Try.func81 rfl Go.Proofs.Try.ntmps81 rfl ?_
  refine f_seq ?_
  have hsl := Sp.lrn_len st
  have hll := h.ll
  have hnn := (Sp.check_ok h.ck).1
  have hz := Sp.check_zero h.ck
  refine f_region ?_
  refine scons (r_box (ob := 10002) rfl (Sees.of rfl) rfl rfl rfl rfl rfl rfl) ?_
  refine scons (CStep.step (PStep.c (p_assign (y := .val _) rfl (Sees.of rfl) rfl)) rfl rfl rfl rfl) ?_
  refine scons (r_alloc (ob := 10005) rfl wCd8_zer26 rfl rfl rfl rfl rfl rfl) ?_
  refine snil ?_
  refine f_seq ?_
  refine f_seq ?_
  refine f_region ?_
  refine scons (CStep.step (PStep.c (p_loadBS rfl wCd8_agg39 wCd8_siz39 (Sees.of rfl) rfl rfl rfl)) rfl rfl rfl rfl) ?_
  refine scons (CStep.step (PStep.c (p_move (y := .val _) rfl (Sees.of rfl) rfl)) rfl rfl rfl rfl) ?_
  refine scons (CStep.step (c_call rfl wCd8_isf118 ⟨_, _, rfl, (Sees.of rfl), rfl, ⟨_, _, rfl, (Sees.of rfl), rfl, rfl⟩⟩ (checked_spec n ls st h)) rfl rfl rfl rfl) ?_
  refine scons (r_alloc (ob := 10006) rfl wCd8_zer26 rfl rfl rfl rfl rfl rfl) ?_
  refine scons (r_storeS rfl wCd8_siz26 rfl rfl rfl (Sees.of rfl) rfl (Sees.of rfl) rfl rfl rfl rfl) ?_
  refine snil ?_
  refine f_seq ?_
  refine f_region ?_
  refine scons (CStep.step (PStep.c (p_fieldRef rfl wCd8_fld26_0 wCd8_siz3 rfl (Sees.of rfl) rfl)) rfl rfl rfl rfl) ?_
  refine scons (CStep.step (PStep.c (p_loadB (y := .val _) rfl wCd8_agg3 (Sees.of rfl) rfl rfl rfl rfl)) rfl rfl rfl rfl) ?_
  refine scons (CStep.step (PStep.c (p_neq rfl (Sees.of rfl) (Sees.of rfl))) rfl rfl rfl rfl) ?_
  refine snil ?_
  refine f_cond rfl ?_ ?_
  · intro hc1
    try simp only [bs] at hc1
    exact absurd trivial hc1
  · intro hc1
    try simp only [bs] at hc1
    refine f_skip ?_
    refine f_seq ?_
    refine f_region ?_
    refine scons (CStep.step (PStep.c (p_fieldRef rfl wCd8_fld39_1 wCd8_siz37 rfl (Sees.of rfl) rfl)) rfl rfl rfl rfl) ?_
    refine scons (CStep.step (PStep.c (p_loadB (y := .val _) rfl wCd8_agg37 (Sees.of rfl) rfl rfl rfl rfl)) rfl rfl rfl rfl) ?_
    refine scons (r_callS (q := false) (ob := 30000) [] rfl wCd8_isf119 (cloneII_spec ls (by have := (Sp.check_ok h.ck).2.1; omega)) (sa_cons (sh_of (Sees.of rfl) rfl) (sa_nil)) (.inl rfl) rfl rfl rfl rfl rfl) ?_
    refine scons (CStep.step (PStep.c (p_assign (y := .row _ _) rfl (Sees.of rfl) rfl)) rfl rfl rfl rfl) ?_
    refine snil ?_
    refine f_seq ?_
    refine f_seq ?_
    refine f_region ?_
    refine scons (CStep.step (PStep.c (p_move (y := .val _) rfl (Sees.of rfl) rfl)) rfl rfl rfl rfl) ?_
    refine scons (CStep.step (PStep.c (p_len rfl wCd8_isl44 (Sees.of rfl))) rfl rfl rfl rfl) ?_
    refine scons (CStep.step (PStep.c (p_move (y := .val _) rfl (Sees.of rfl) rfl)) rfl rfl rfl rfl) ?_
    refine snil ?_
    refine f_block ?_
    refine f_loop (α := Nat × Nat) (fun (i, u) => i ≤ st.length) (fun (i, u) => [(24, iv i), (7, .row 30000 u), (30000, .arr u 33 1 24 ints [] (ls ++ st.take i)), (1, .val (stps (lrn st))), (5, .ref 10005 0 0), (22, .val (stps (lrn st))), (23, iv (lrn st).length), (10005, .box 0 (.ccons (iv 0) (.ccons (iv 0) .cnil)))]) (fun (i, u) => st.length - i) (0, 0) ?_ ?_ ?_
    · exact Nat.zero_le _
    · exact le_ofL ⟨rfl, rfl, (by show _ = AV.arr _ _ _ _ _ _ (ls ++ []); rw [List.append_nil]; rfl), rfl, rfl, rfl, rfl, rfl, trivial⟩ rfl
    · rintro ⟨i, u⟩ hi
      have hi : i ≤ st.length := hi
      refine f_seq ?_
      refine f_region ?_
      refine scons (CStep.step (PStep.c (p_lss rfl (Sees.of rfl) (Sees.of rfl))) rfl rfl rfl rfl) ?_
      refine snil ?_
      refine f_seq ?_
      refine f_cond rfl ?_ ?_
      · intro hc2
        try simp only [bs] at hc2
        refine f_skip ?_
        refine f_seq ?_
        refine f_block ?_
        refine f_seq ?_
        refine f_region ?_
        refine scons (CStep.step (PStep.c (p_move (y := .val _) rfl (Sees.of rfl) rfl)) rfl rfl rfl rfl) ?_
        refine scons (CStep.step (PStep.c ((by first | exact p_indexN rfl wCd8_isl44 wCd8_siz119 (Sees.of rfl) (Sees.of rfl) (by omega) | exact p_index rfl wCd8_isl44 wCd8_siz119 (Sees.of rfl) (Sees.of rfl) (by omega) (by omega)))) rfl rfl rfl rfl) ?_
        refine scons (CStep.step (PStep.c (p_loadS rfl wCd8_agg119 wCd8_siz119 (Sees.of rfl) ⟨rfl, fun h => R_len rfl h⟩)) rfl rfl rfl rfl) ?_
        refine scons (r_alloc (ob := 10009) rfl wCd8_zer119 rfl rfl rfl rfl rfl rfl) ?_
        refine scons (CStep.step (PStep.c (p_assign (y := .val _) rfl (Sees.of rfl) rfl)) rfl rfl rfl rfl) ?_
        refine scons (r_storeS rfl wCd8_siz119 rfl rfl rfl (Sees.of rfl) rfl (Sees.of rfl) rfl rfl rfl rfl) ?_
        refine snil ?_
        refine f_seq ?_
        refine f_seq ?_
        rw [Sp.lrn_at (by omega)]
        have hwr := h.wr _ (Sp.getD_mem st i [] (by omega))
        obtain ⟨hr1, hr2, hr3⟩ := h.room i
        have hfa := Sp.chain_falls h.nz.1 h.nz.2 h.ch (i := i) (by omega)
        refine f_region ?_
        refine scons (CStep.step (PStep.c (p_fieldRef rfl wCd8_fld119_0 wCd8_siz3 rfl (Sees.of rfl) rfl)) rfl rfl rfl rfl) ?_
        refine scons (CStep.step (PStep.c (p_loadB (y := .val _) rfl wCd8_agg3 (Sees.of rfl) rfl rfl rfl rfl)) rfl rfl rfl rfl) ?_
        refine scons (CStep.step (PStep.c (p_eql rfl (Sees.of rfl) (Sees.of rfl))) rfl rfl rfl rfl) ?_
        refine snil ?_
        refine f_cond rfl ?_ ?_
        · intro hc3
          try simp only [bs] at hc3
          refine f_seq ?_
          refine f_seq ?_
          refine f_region ?_
          refine scons (CStep.step (PStep.c (p_move (y := .row _ _) rfl (Sees.of rfl) rfl)) rfl rfl rfl rfl) ?_
          refine scons (CStep.step (PStep.c (p_fieldRef rfl wCd8_fld119_1 wCd8_siz33 rfl (Sees.of rfl) rfl)) rfl rfl rfl rfl) ?_
          refine scons (CStep.step (PStep.c (p_loadB (y := .val _) rfl wCd8_agg33 (Sees.of rfl) rfl rfl rfl rfl)) rfl rfl rfl rfl) ?_
          refine scons (CStep.step (c_callS (q := true) rfl wCd8_isf80 (Falls_spec (ls ++ st.take i) (st.getD i []) hr1 (fun x hx => by have := Sp.wrong_ok hwr.1 x hx; omega) (by omega) hr2 (by omega)) (sa_cons (sh_row (Sees.of rfl) rfl) (sa_cons (sh_of (Sees.of rfl) rfl) (sa_nil))) rfl) rfl rfl rfl rfl) ?_
          refine scons (CStep.step (PStep.c (p_not rfl (Sees.of rfl))) rfl rfl rfl rfl) ?_
          refine snil ?_
          refine f_cond rfl ?_ ?_
          · intro hc4
            try simp only [bs] at hc4
            have hfb := hfa (List.replicate ((st.getD i []).map fun x => -x).length (-1))
            omega
          · intro hc4
            try simp only [bs] at hc4
            refine f_skip ?_
            refine f_seq ?_
            refine f_region ?_
            refine scons (CStep.step (PStep.c (p_move (y := .row _ _) rfl (Sees.of rfl) rfl)) rfl rfl rfl rfl) ?_
            refine scons (CStep.step (PStep.c (p_fieldRef rfl wCd8_fld119_1 wCd8_siz33 rfl (Sees.of rfl) rfl)) rfl rfl rfl rfl) ?_
            refine scons (CStep.step (PStep.c (p_loadB (y := .val _) rfl wCd8_agg33 (Sees.of rfl) rfl rfl rfl rfl)) rfl rfl rfl rfl) ?_
            refine scons (CStep.step (c_buildSlice (f := ints) (za := []) (xs := [.tmp 41]) rfl rfl wCd8_isl37 wCd8_siz33 wCd8_zer33 rfl rfl ⟨_, _, rfl, (Sees.of rfl), rfl, rfl, rfl⟩) rfl rfl rfl rfl) ?_
            refine scons (r_appendR (ob := 30000) rfl wCd8_isl37 wCd8_siz33 wCd8_byt33 wCd8_zer33 rfl rfl (Sees.of rfl) rfl (Sees.of rfl) (by simp only [List.length_append, List.length_cons, List.length_nil]; rw [List.length_append] at hr3; omega) (by simp only [List.length_append, List.length_cons, List.length_nil]; rw [List.length_append] at hr3; omega) rfl rfl rfl rfl rfl) ?_
            refine scons (CStep.step (PStep.c (p_assign (y := .row _ _) rfl (Sees.of rfl) rfl)) rfl rfl rfl rfl) ?_
            refine snil ?_
            refine f_exit ?_
            show AWs _ _ _ _ _
            refine f_region ?_
            refine scons (CStep.step (PStep.c (p_add rfl (Sees.of rfl) (Sees.of rfl) (by omega))) rfl rfl rfl rfl) ?_
            refine scons (CStep.step (PStep.c (p_move (y := .val _) rfl (Sees.of rfl) rfl)) rfl rfl rfl rfl) ?_
            refine snil ?_
            refine f_back ⟨(i + 1, u + 1), ?_, ?_, le_ofL ⟨rfl, rfl, (by rw [Sp.take_getD st i [] (by omega), ← List.append_assoc]; rfl), rfl, rfl, rfl, rfl, rfl, trivial⟩ rfl⟩
            · show i + 1 ≤ _
              omega
            · show _ - (i + 1) < _ - i
              omega
        · intro hc3
          try simp only [bs] at hc3
          exact absurd (by trivial) hc3
      · intro hc2
        try simp only [bs] at hc2
        refine f_exit ?_
        show AWs _ _ _ _ _
        refine f_seq ?_
        refine f_seq ?_
        obtain rfl : i = st.length := by omega
        refine f_region ?_
        refine scons (CStep.step (PStep.c (p_move (y := .row _ _) rfl (Sees.of rfl) rfl)) rfl rfl rfl rfl) ?_
        refine scons (CStep.step (c_callS (q := true) rfl wCd8_isf125 (containsII_spec (ls ++ st.take st.length) (fun l => decide (l = [])) (fun _ => True) (fun _ _ => trivial)) (sa_cons (sh_row (Sees.of rfl) rfl) (sa_cons (sh_clo (Sees.of rfl) wCd8_isf126 (sl_nil) (fun _ => rfl) (fun _ => rfl) (fun y => why2_spec y.1)) (sa_nil))) rfl) rfl rfl rfl rfl) ?_
        refine snil ?_
        refine f_cond rfl ?_ ?_
        · intro hc5
          try simp only [bs] at hc5
          refine f_seq ?_
          refine f_region ?_
          refine scons (CStep.step (PStep.c (p_build rfl wCd8_plc26 wCd8_zer26 (by decide) wCd8_zch26 rfl rfl)) rfl rfl rfl rfl) ?_
          refine scons (CStep.step (PStep.c (p_assign (y := .val _) rfl (Sees.of rfl) rfl)) rfl rfl rfl rfl) ?_
          refine scons (r_storeS rfl wCd8_siz26 rfl rfl rfl (Sees.of rfl) rfl (Sees.of rfl) rfl rfl rfl rfl) ?_
          refine snil ?_
          refine f_ret ?_
          refine ends_ret (res_eq (res2 rfl (res_tmp rfl (Sees.of rfl)) (res_cell (by rfl) rfl rfl wCd8_agg26 wCd8_siz26 rfl rfl)) ?_)
          rfl
        · intro hc5
          try simp only [bs] at hc5
          exfalso
          rw [List.take_length] at hc5
          exact absurd (List.any_eq_false.1 hc5 [] h0) (by decide)

theorem Take_spec (n : Int) (ls st : List (List Int)) (h : Sp.Taken n ls st) (h0 : [] ∈ ls ++ st) :
    Spec Go.Proofs.Try.prog 31 [.val (cnf n ls), .val (stps (lrn st))] (two (D.bool true) (fault 0 0)) := by
  refine spec_of' Go.Proofs.Try.func31 rfl Go.Proofs.Try.ntmps31 rfl ?_
  refine f_seq ?_
  refine f_region ?_
  refine scons (r_box (ob := 10002) rfl (Sees.of rfl) rfl rfl rfl rfl rfl rfl) ?_
  refine scons (CStep.step (PStep.c (p_assign (y := .val _) rfl (Sees.of rfl) rfl)) rfl rfl rfl rfl) ?_
  refine scons (r_alloc (ob := 10005) rfl wCd8_zer26 rfl rfl rfl rfl rfl rfl) ?_
  refine snil ?_
  refine f_seq ?_
  refine f_region ?_
  refine scons (CStep.step (PStep.c (p_loadBS rfl wCd8_agg39 wCd8_siz39 (Sees.of rfl) rfl rfl rfl)) rfl rfl rfl rfl) ?_
  refine scons (CStep.step (PStep.c (p_move (y := .val _) rfl (Sees.of rfl) rfl)) rfl rfl rfl rfl) ?_
  refine scons (CStep.step (c_call rfl wCd8_isf81 ⟨_, _, rfl, (Sees.of rfl), rfl, ⟨_, _, rfl, (Sees.of rfl), rfl, rfl⟩⟩ (Why_spec n ls st h h0)) rfl rfl rfl rfl) ?_
  refine scons (CStep.step (PStep.c (p_move (y := .val _) rfl (Sees.of rfl) rfl)) rfl rfl rfl rfl) ?_
  refine scons (CStep.step (PStep.c (p_extract rfl (Sees.of rfl) rfl)) rfl rfl rfl rfl) ?_
  refine scons (CStep.step (PStep.c (p_extract rfl (Sees.of rfl) rfl)) rfl rfl rfl rfl) ?_
  refine scons (r_alloc (ob := 10007) rfl wCd8_zer26 rfl rfl rfl rfl rfl rfl) ?_
  refine scons (CStep.step (PStep.c (p_assign (y := .val _) rfl (Sees.of rfl) rfl)) rfl rfl rfl rfl) ?_
  refine scons (r_storeS rfl wCd8_siz26 rfl rfl rfl (Sees.of rfl) rfl (Sees.of rfl) rfl rfl rfl rfl) ?_
  refine snil ?_
  refine f_seq ?_
  refine f_seq ?_
  refine f_region ?_
  refine scons (CStep.step (PStep.c (p_fieldRef rfl wCd8_fld26_0 wCd8_siz3 rfl (Sees.of rfl) rfl)) rfl rfl rfl rfl) ?_
  refine scons (CStep.step (PStep.c (p_loadB (y := .val _) rfl wCd8_agg3 (Sees.of rfl) rfl rfl rfl rfl)) rfl rfl rfl rfl) ?_
  refine scons (CStep.step (PStep.c (p_neq rfl (Sees.of rfl) (Sees.of rfl))) rfl rfl rfl rfl) ?_
  refine snil ?_
  refine f_cond rfl ?_ ?_
  · intro hc1
    try simp only [bs] at hc1
    exact absurd trivial hc1
  · intro hc1
    try simp only [bs] at hc1
    refine f_skip ?_
    refine f_seq ?_
    refine f_region ?_
    refine scons (CStep.step (PStep.c (p_move (y := .val _) rfl (Sees.of rfl) rfl)) rfl rfl rfl rfl) ?_
    refine scons (CStep.step (PStep.c (p_eql rfl (Sees.of rfl) (Sees.of rfl))) rfl rfl rfl rfl) ?_
    refine scons (CStep.step (PStep.c (p_build rfl wCd8_plc26 wCd8_zer26 (by decide) wCd8_zch26 rfl rfl)) rfl rfl rfl rfl) ?_
    refine scons (CStep.step (PStep.c (p_assign (y := .val _) rfl (Sees.of rfl) rfl)) rfl rfl rfl rfl) ?_
    refine scons (r_storeS rfl wCd8_siz26 rfl rfl rfl (Sees.of rfl) rfl (Sees.of rfl) rfl rfl rfl rfl) ?_
    refine snil ?_
    refine f_ret ?_
    refine ends_ret (res_eq (res2 rfl (res_tmp rfl (Sees.of rfl)) (res_cell (by rfl) rfl rfl wCd8_agg26 wCd8_siz26 rfl rfl)) ?_)
    rfl

theorem CdclTaken_spec (n : Int) (ls : List (List Int)) (a b c d : Int) :
    Spec Go.Proofs.Try.prog 9 [.val (cnf n ls), .val (opts a b c d)] (D.bool true) := by
  refine spec_of' Go.Proofs.Try.func9 rfl Go.Proofs.Try.ntmps9 rfl ?_
  refine f_seq ?_
  refine f_region ?_
  refine scons (r_box (ob := 10002) rfl (Sees.of rfl) rfl rfl rfl rfl rfl rfl) ?_
  refine scons (r_box (ob := 10003) rfl (Sees.of rfl) rfl rfl rfl rfl rfl rfl) ?_
  refine scons (CStep.step (PStep.c (p_assign (y := .val _) rfl (Sees.of rfl) rfl)) rfl rfl rfl rfl) ?_
  refine snil ?_
  refine f_seq ?_
  refine f_seq ?_
  refine f_region ?_
  refine scons (CStep.step (PStep.c (p_loadBS rfl wCd8_agg39 wCd8_siz39 (Sees.of rfl) rfl rfl rfl)) rfl rfl rfl rfl) ?_
  refine scons (CStep.step (c_call rfl wCd8_isf23 ⟨_, _, rfl, (Sees.of rfl), rfl, rfl⟩ (heavy_spec n ls)) rfl rfl rfl rfl) ?_
  refine scons (CStep.step (PStep.c (p_move (y := .val _) rfl (Sees.of rfl) rfl)) rfl rfl rfl rfl) ?_
  refine scons (CStep.guard rfl rfl rfl (fun hg0 => PStep.c (p_loadBS rfl wCd8_agg39 wCd8_siz39 (Sees.of rfl) rfl rfl rfl)) rfl rfl rfl rfl rfl) ?_
  refine scons (CStep.guard rfl rfl rfl (fun hg0 => PStep.c (p_loadBS rfl wCd8_agg41 wCd8_siz41 (Sees.of rfl) rfl rfl rfl)) rfl rfl rfl rfl rfl) ?_
  refine scons (CStep.guard rfl rfl rfl (fun hg0 => c_call rfl wCd8_isf19 ⟨_, _, rfl, (Sees.gv' rfl hg0), rfl, ⟨_, _, rfl, (Sees.emp rfl _ _ _), rfl, ⟨_, _, rfl, (Sees.gv' rfl hg0), rfl, ⟨_, _, rfl, (Sees.of rfl), rfl, rfl⟩⟩⟩⟩ (cdclFault_spec n ls [] a b c d 0)) rfl rfl rfl rfl rfl) ?_
  refine scons (CStep.guard rfl rfl rfl (fun hg0 => PStep.c (p_field rfl wCd8_fld26_0 wCd8_agg3 (Sees.gv' rfl hg0) rfl)) rfl rfl rfl rfl rfl) ?_
  refine scons (CStep.guard rfl rfl rfl (fun hg0 => PStep.c (p_neq rfl (Sees.gv' rfl hg0) (Sees.of rfl))) rfl rfl rfl rfl rfl) ?_
  refine scons (CStep.step (PStep.c (p_or rfl (Sees.of rfl) (Sees.of rfl) (fun h => Sees.gv' rfl (beq_of_eq h)))) rfl rfl rfl rfl) ?_
  refine snil ?_
  refine f_cond rfl ?_ ?_
  · intro hc1
    try simp only [bs] at hc1
    refine f_seq ?_
    refine f_region ?_
    refine scons (CStep.step (PStep.c (p_assign (y := .val _) rfl (Sees.of rfl) rfl)) rfl rfl rfl rfl) ?_
    refine snil ?_
    refine f_ret ?_
    refine ends_ret (res_eq (res1 rfl (res_tmp rfl (Sees.of rfl))) ?_)
    rfl
  · intro hc1
    try simp only [bs] at hc1
    obtain ⟨m, rfl, hfit, hbe, hopt⟩ := Sp.cdF_ok hc1.2
    have hgo := Sp.doOf_go hbe (Sp.opt_more hopt (g := 2000) (by omega))
    have htwo := Sp.do_two (ph := decide (d = 1)) hfit (by omega) (by omega)
    have hok := Sp.do_ok (ph := decide (d = 1)) (fuel := 2000) hfit (by omega)
    have hck := Sp.check_of_beside hbe
    refine f_skip ?_
    refine f_seq ?_
    refine f_region ?_
    refine scons (CStep.step (PStep.c (p_loadBS rfl wCd8_agg39 wCd8_siz39 (Sees.of rfl) rfl rfl rfl)) rfl rfl rfl rfl) ?_
    refine scons (CStep.step (PStep.c (p_loadBS rfl wCd8_agg41 wCd8_siz41 (Sees.of rfl) rfl rfl rfl)) rfl rfl rfl rfl) ?_
    refine scons (CStep.step (c_call rfl wCd8_isf21 ⟨_, _, rfl, (Sees.of rfl), rfl, ⟨_, _, rfl, (Sees.emp rfl _ _ _), rfl, ⟨_, _, rfl, (Sees.of rfl), rfl, ⟨_, _, rfl, (Sees.of rfl), rfl, rfl⟩⟩⟩⟩ (Do_spec m ls [] a b c d 2000)) rfl rfl rfl rfl) ?_
    refine scons (CStep.step (PStep.c (p_move (y := .val _) rfl (Sees.of rfl) rfl)) rfl rfl rfl rfl) ?_
    refine scons (CStep.step (PStep.c (p_extract rfl (Sees.of rfl) rfl)) rfl rfl rfl rfl) ?_
    refine scons (CStep.step (PStep.c (p_extract rfl (Sees.of rfl) rfl)) rfl rfl rfl rfl) ?_
    refine scons (r_alloc (ob := 10005) rfl wCd8_zer46 rfl rfl rfl rfl rfl rfl) ?_
    refine scons (r_alloc (ob := 10006) rfl wCd8_zer26 rfl rfl rfl rfl rfl rfl) ?_
    refine scons (r_storeS rfl wCd8_siz46 rfl rfl rfl (Sees.of rfl) rfl (Sees.of rfl) rfl rfl rfl rfl) ?_
    refine scons (r_storeS rfl wCd8_siz26 rfl rfl rfl (Sees.of rfl) rfl (Sees.of rfl) rfl rfl rfl rfl) ?_
    refine snil ?_
    refine f_seq ?_
    refine f_seq ?_
    refine f_region ?_
    refine scons (CStep.step (PStep.c (p_fieldRef rfl wCd8_fld26_0 wCd8_siz3 rfl (Sees.of rfl) rfl)) rfl rfl rfl rfl) ?_
    refine scons (CStep.step (PStep.c (p_loadB (y := .val _) rfl wCd8_agg3 (Sees.of rfl) rfl rfl rfl rfl)) rfl rfl rfl rfl) ?_
    refine scons (CStep.step (PStep.c (p_neq rfl (Sees.of rfl) (Sees.of rfl))) rfl rfl rfl rfl) ?_
    refine scons (CStep.step (PStep.c (p_move (y := .val _) rfl (Sees.of rfl) rfl)) rfl rfl rfl rfl) ?_
    refine scons (CStep.guard rfl rfl rfl (fun hg0 => c_call rfl wCd8_isf20 rfl (sure_spec)) rfl rfl rfl rfl rfl) ?_
    refine scons (CStep.guard rfl rfl rfl (fun hg0 => PStep.c (p_not rfl (Sees.gv' rfl hg0))) rfl rfl rfl rfl rfl) ?_
    refine scons (CStep.step (PStep.c (p_or rfl (Sees.of rfl) (Sees.of rfl) (fun h => Sees.gv' rfl (beq_of_eq h)))) rfl rfl rfl rfl) ?_
    refine snil ?_
    refine f_cond rfl ?_ ?_
    · intro hc2
      try simp only [bs] at hc2
      exfalso
      rw [hgo] at hc2
      simp at hc2
    · intro hc2
      try simp only [bs] at hc2
      refine f_skip ?_
      refine f_seq ?_
      refine f_seq ?_
      refine f_region ?_
      refine scons (CStep.step (PStep.c (p_fieldRef rfl wCd8_fld46_0 wCd8_siz3 rfl (Sees.of rfl) rfl)) rfl rfl rfl rfl) ?_
      refine scons (CStep.step (PStep.c (p_loadB (y := .val _) rfl wCd8_agg3 (Sees.of rfl) rfl rfl rfl rfl)) rfl rfl rfl rfl) ?_
      refine scons (CStep.step (PStep.c (p_neq rfl (Sees.of rfl) (Sees.of rfl))) rfl rfl rfl rfl) ?_
      refine snil ?_
      refine f_cond rfl ?_ ?_
      · intro hc3
        try simp only [bs] at hc3
        refine f_seq ?_
        refine f_region ?_
        refine scons (CStep.step (PStep.c (p_fieldRef rfl wCd8_fld46_0 wCd8_siz3 rfl (Sees.of rfl) rfl)) rfl rfl rfl rfl) ?_
        refine scons (CStep.step (PStep.c (p_loadB (y := .val _) rfl wCd8_agg3 (Sees.of rfl) rfl rfl rfl rfl)) rfl rfl rfl rfl) ?_
        refine scons (CStep.step (PStep.c (p_eql rfl (Sees.of rfl) (Sees.of rfl))) rfl rfl rfl rfl) ?_
        refine scons (CStep.step (PStep.c (p_assign (y := .val _) rfl (Sees.of rfl) rfl)) rfl rfl rfl rfl) ?_
        refine snil ?_
        refine f_ret ?_
        refine ends_ret (res_eq (res1 rfl (res_tmp rfl (Sees.of rfl))) ?_)
        rw [hgo] at hc3 ⊢
        rcases htwo with h | h
        · rw [h.st]
          rfl
        · exact absurd h.st hc3
      · intro hc3
        try simp only [bs] at hc3
        have hno : Sp.OutN m ls [] (Sp.doA m ls [] (decide (d = 1)) 2000) := htwo.resolve_left (fun h => by rw [hgo] at hc3; have := h.st; rw [hc3] at this; cases this)
        have htk := Sp.outN_taken hck (by omega) hno hok.2.2 (Int.le_refl _)
        have hnil := hno.empty
        refine f_skip ?_
        refine f_seq ?_
        refine f_region ?_
        refine scons (CStep.step (PStep.c (p_loadBS rfl wCd8_agg39 wCd8_siz39 (Sees.of rfl) rfl rfl rfl)) rfl rfl rfl rfl) ?_
        refine scons (CStep.step (PStep.c (p_fieldRef rfl wCd8_fld46_2 wCd8_siz44 rfl (Sees.of rfl) rfl)) rfl rfl rfl rfl) ?_
        refine scons (CStep.step (PStep.c (p_loadB (y := .val _) rfl wCd8_agg44 (Sees.of rfl) rfl rfl rfl rfl)) rfl rfl rfl rfl) ?_
        refine scons (CStep.step (c_call rfl wCd8_isf31 ⟨_, _, rfl, (Sees.of rfl), rfl, ⟨_, _, rfl, (Sees.of rfl), rfl, rfl⟩⟩ (Take_spec m ls (Sp.doOf m ls [] a b c d 2000).1.2.2.1 (by rw [hgo]; exact htk) (by rw [hgo]; exact hnil))) rfl rfl rfl rfl) ?_
        refine scons (CStep.step (PStep.c (p_move (y := .val _) rfl (Sees.of rfl) rfl)) rfl rfl rfl rfl) ?_
        refine scons (CStep.step (PStep.c (p_extract rfl (Sees.of rfl) rfl)) rfl rfl rfl rfl) ?_
        refine scons (CStep.step (PStep.c (p_extract rfl (Sees.of rfl) rfl)) rfl rfl rfl rfl) ?_
        refine scons (r_alloc (ob := 10008) rfl wCd8_zer26 rfl rfl rfl rfl rfl rfl) ?_
        refine scons (CStep.step (PStep.c (p_assign (y := .val _) rfl (Sees.of rfl) rfl)) rfl rfl rfl rfl) ?_
        refine scons (r_storeS rfl wCd8_siz26 rfl rfl rfl (Sees.of rfl) rfl (Sees.of rfl) rfl rfl rfl rfl) ?_
        refine snil ?_
        refine f_seq ?_
        refine f_region ?_
        refine scons (CStep.step (PStep.c (p_fieldRef rfl wCd8_fld26_0 wCd8_siz3 rfl (Sees.of rfl) rfl)) rfl rfl rfl rfl) ?_
        refine scons (CStep.step (PStep.c (p_loadB (y := .val _) rfl wCd8_agg3 (Sees.of rfl) rfl rfl rfl rfl)) rfl rfl rfl rfl) ?_
        refine scons (CStep.step (PStep.c (p_eql rfl (Sees.of rfl) (Sees.of rfl))) rfl rfl rfl rfl) ?_
        refine scons (CStep.step (PStep.c (p_move (y := .val _) rfl (Sees.of rfl) rfl)) rfl rfl rfl rfl) ?_
        refine scons (CStep.guard rfl rfl rfl (fun hg0 => PStep.c (p_move (y := .val _) rfl (Sees.of rfl) rfl)) rfl rfl rfl rfl rfl) ?_
        refine scons (CStep.step (PStep.c (p_and rfl (Sees.of rfl) (fun h => Sees.gv' rfl (beq_of_eq h)) (Sees.of rfl))) rfl rfl rfl rfl) ?_
        refine scons (CStep.step (PStep.c (p_move (y := .val _) rfl (Sees.of rfl) rfl)) rfl rfl rfl rfl) ?_
        refine scons (CStep.guard rfl rfl rfl (fun hg0 => PStep.c (p_fieldRef rfl wCd8_fld46_3 wCd8_siz33 rfl (Sees.of rfl) rfl)) rfl rfl rfl rfl rfl) ?_
        refine scons (CStep.guard rfl rfl rfl (fun hg0 => PStep.c (p_loadB (y := .val _) rfl wCd8_agg33 (Sees.gv' rfl hg0) rfl rfl rfl rfl)) rfl rfl rfl rfl rfl) ?_
        refine scons (CStep.guard rfl rfl rfl (fun hg0 => PStep.c (p_len rfl wCd8_isl33 (Sees.gv' rfl hg0))) rfl rfl rfl rfl rfl) ?_
        refine scons (CStep.guard rfl rfl rfl (fun hg0 => PStep.c (p_eql rfl (Sees.gv' rfl hg0) (Sees.of rfl))) rfl rfl rfl rfl rfl) ?_
        refine scons (CStep.step (PStep.c (p_and rfl (Sees.of rfl) (fun h => Sees.gv' rfl (beq_of_eq h)) (Sees.of rfl))) rfl rfl rfl rfl) ?_
        refine scons (CStep.step (PStep.c (p_assign (y := .val _) rfl (Sees.of rfl) rfl)) rfl rfl rfl rfl) ?_
        refine snil ?_
        refine f_ret ?_
        refine ends_ret (res_eq (res1 rfl (res_tmp rfl (Sees.of rfl))) ?_)
        rw [hgo, hno.zero rfl]
        rfl

end Go.Um
