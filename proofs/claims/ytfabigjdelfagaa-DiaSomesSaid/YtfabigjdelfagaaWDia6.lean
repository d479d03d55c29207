/- Walks of Go functions of this seat, each by its contract. No condition beyond what each theorem says. -/
import Derived.Test.YtfabigjdelfagaaWDia5
import Derived.Test.YtfabigjdelfagaaProg
import Derived.KernelRfl
set_option maxRecDepth 4000
namespace Go.Um
open Go Go.RowKit

theorem wDia6_agg28 : IsAgg Go.Proofs.Try.prog 28 true := by unfold IsAgg; kernel_rfl
theorem wDia6_agg3 : IsAgg Go.Proofs.Try.prog 3 false := by unfold IsAgg; kernel_rfl
theorem wDia6_agg4 : IsAgg Go.Proofs.Try.prog 4 false := by unfold IsAgg; kernel_rfl
theorem wDia6_agg41 : IsAgg Go.Proofs.Try.prog 41 true := by unfold IsAgg; kernel_rfl
theorem wDia6_agg5 : IsAgg Go.Proofs.Try.prog 5 false := by unfold IsAgg; kernel_rfl
theorem wDia6_byt4 : Bytes Go.Proofs.Try.prog 4 1 := by unfold Bytes; kernel_rfl
theorem wDia6_byt5 : Bytes Go.Proofs.Try.prog 5 1 := by unfold Bytes; kernel_rfl
theorem wDia6_eq228 : Eq2 Go.Proofs.Try.prog 28 := ⟨_, _, Go.Proofs.Try.underlying28, by decide, by decide, rfl, rfl, Go.Proofs.Try.underlying3, Go.Proofs.Try.underlying3, by kernel_rfl, by kernel_rfl⟩
theorem wDia6_fld28_0 : IsField Go.Proofs.Try.prog 28 0 0 3 := by unfold IsField; kernel_rfl
theorem wDia6_int3 : IsInt Go.Proofs.Try.prog 3 .i64 := by unfold IsInt; kernel_rfl
theorem wDia6_int46 : IsInt Go.Proofs.Try.prog 46 .u64 := by unfold IsInt; kernel_rfl
theorem wDia6_int5 : IsInt Go.Proofs.Try.prog 5 .u8 := by unfold IsInt; kernel_rfl
theorem wDia6_isf23 : IsFn Go.Proofs.Try.prog 23 := by unfold IsFn; kernel_rfl
theorem wDia6_isf25 : IsFn Go.Proofs.Try.prog 25 := by unfold IsFn; kernel_rfl
theorem wDia6_isf26 : IsFn Go.Proofs.Try.prog 26 := by unfold IsFn; kernel_rfl
theorem wDia6_isf27 : IsFn Go.Proofs.Try.prog 27 := by unfold IsFn; kernel_rfl
theorem wDia6_isf28 : IsFn Go.Proofs.Try.prog 28 := by unfold IsFn; kernel_rfl
theorem wDia6_isf29 : IsFn Go.Proofs.Try.prog 29 := by unfold IsFn; kernel_rfl
theorem wDia6_isf34 : IsFn Go.Proofs.Try.prog 34 := by unfold IsFn; kernel_rfl
theorem wDia6_isf36 : IsFn Go.Proofs.Try.prog 36 := by unfold IsFn; kernel_rfl
theorem wDia6_isf37 : IsFn Go.Proofs.Try.prog 37 := by unfold IsFn; kernel_rfl
theorem wDia6_isf38 : IsFn Go.Proofs.Try.prog 38 := by unfold IsFn; kernel_rfl
theorem wDia6_isf39 : IsFn Go.Proofs.Try.prog 39 := by unfold IsFn; kernel_rfl
theorem wDia6_isf40 : IsFn Go.Proofs.Try.prog 40 := by unfold IsFn; kernel_rfl
theorem wDia6_isf52 : IsFn Go.Proofs.Try.prog 52 := by unfold IsFn; kernel_rfl
theorem wDia6_isf66 : IsFn Go.Proofs.Try.prog 66 := by unfold IsFn; kernel_rfl
theorem wDia6_isf67 : IsFn Go.Proofs.Try.prog 67 := by unfold IsFn; kernel_rfl
theorem wDia6_isf68 : IsFn Go.Proofs.Try.prog 68 := by unfold IsFn; kernel_rfl
theorem wDia6_isf69 : IsFn Go.Proofs.Try.prog 69 := by unfold IsFn; kernel_rfl
theorem wDia6_isf87 : IsFn Go.Proofs.Try.prog 87 := by unfold IsFn; kernel_rfl
theorem wDia6_isl45 : IsSlice Go.Proofs.Try.prog 45 4 := by unfold IsSlice; kernel_rfl
theorem wDia6_isl91 : IsSlice Go.Proofs.Try.prog 91 5 := by unfold IsSlice; kernel_rfl
theorem wDia6_mix : (Go.Proofs.Try.prog).follows .mixedOrders = true := by kernel_rfl
theorem wDia6_plc28 : Places Go.Proofs.Try.prog 28 [(0, 1), (1, 1)] := by unfold Places; kernel_rfl
theorem wDia6_plc41 : Places Go.Proofs.Try.prog 41 [(0, 1), (1, 1)] := by unfold Places; kernel_rfl
theorem wDia6_siz28 : Size Go.Proofs.Try.prog 28 2 := by unfold Size; kernel_rfl
theorem wDia6_siz3 : Size Go.Proofs.Try.prog 3 1 := by unfold Size; kernel_rfl
theorem wDia6_siz4 : Size Go.Proofs.Try.prog 4 1 := by unfold Size; kernel_rfl
theorem wDia6_siz41 : Size Go.Proofs.Try.prog 41 2 := by unfold Size; kernel_rfl
theorem wDia6_siz5 : Size Go.Proofs.Try.prog 5 1 := by unfold Size; kernel_rfl
def wDia6_z28 : D := .cons (.int .i64 0) (.cons (.int .i64 0) (.nil))
theorem wDia6_zch28 : ∀ (ok : Nat → Prop) (w : World), R Go.Proofs.Try.prog wDia6_z28 ok w (Value.cells (.agg #[(.int .i64 0), (.int .i64 0)])).toList := fun _ _ => z_int (z_int (z_nil))
def wDia6_z41 : D := .cons (chos []) (.cons (.int .i64 0) (.nil))
theorem wDia6_zch41 : ∀ (ok : Nat → Prop) (w : World), R Go.Proofs.Try.prog wDia6_z41 ok w (Value.cells (.agg #[(.slice none 0 0), (.int .i64 0)])).toList := fun _ _ => z_list (z_int (z_nil))
theorem wDia6_zer28 : Zero Go.Proofs.Try.prog 28 (.agg #[(.int .i64 0), (.int .i64 0)]) := by unfold Zero; kernel_rfl
theorem wDia6_zer4 : Zero Go.Proofs.Try.prog 4 (.bool false) := by unfold Zero; kernel_rfl
theorem wDia6_zer41 : Zero Go.Proofs.Try.prog 41 (.agg #[(.slice none 0 0), (.int .i64 0)]) := by unfold Zero; kernel_rfl
theorem wDia6_zer5 : Zero Go.Proofs.Try.prog 5 (.int .u8 0) := by unfold Zero; kernel_rfl

theorem cloneT_spec (a : List Int) :
    SpecN Go.Proofs.Try.prog 87 [.val (bytes a)] 5 1 1 dby a := by
  refine specN_of' Go.Proofs.Try.func87 rfl Go.Proofs.Try.ntmps87 rfl ?_
  refine f_seq ?_
  refine f_wf (.tmp 0) rfl (fun hwf => ?_) (by simp)
  have hlen : a.length ≤ 140737488355328 := hwf.1
  clear hwf
  refine f_sl 0 rfl rfl (fun b hb => ?_) (by simp)
  refine f_region ?_
  refine scons (CStep.step (PStep.c (p_assign (y := .emp) rfl (Sees.of rfl) rfl)) rfl rfl rfl rfl) ?_
  refine snil ?_
  refine f_seq ?_
  refine f_seq ?_
  refine f_region ?_
  refine scons (CStep.step (PStep.c (p_move (y := .val _) rfl (Sees.of rfl) rfl)) rfl rfl rfl rfl) ?_
  refine scons (CStep.step (PStep.c (p_eqlNil rfl wDia6_isl91 rfl rfl)) rfl rfl rfl rfl) ?_
  refine snil ?_
  refine f_cond rfl ?_ ?_
  · intro hc1
    try simp only [bs] at hc1
    refine f_seq ?_
    refine f_region ?_
    refine scons (CStep.step (PStep.c (p_assign (y := .emp) rfl (Sees.of rfl) rfl)) rfl rfl rfl rfl) ?_
    refine snil ?_
    refine f_ret ?_
    refine endsN_ret (resN_eq (resN_emp rfl rfl rfl rfl) ?_)
    exact (hb hc1).symm
  · intro hc1
    try simp only [bs] at hc1
    refine f_skip ?_
    refine f_seq ?_
    refine f_region ?_
    refine scons (r_buildRow (f := dby) (za := 0) (xs := []) (by_ := 1) (ob := 10005) rfl rfl wDia6_isl91 wDia6_siz5 wDia6_zer5 rfl rfl (by decide) rfl rfl rfl rfl rfl rfl) ?_
    refine scons (CStep.step (PStep.c (p_move (y := .val _) rfl (Sees.of rfl) rfl)) rfl rfl rfl rfl) ?_
    refine scons (r_appendR (ob := 10005) rfl wDia6_isl91 wDia6_siz5 wDia6_byt5 wDia6_zer5 rfl rfl (Sees.of rfl) rfl (Sees.sl rfl) (by simp only [List.length_cons, List.length_nil, List.length_append]; omega) (by simp only [List.length_cons, List.length_nil, List.length_append]; omega) rfl rfl rfl rfl rfl) ?_
    refine scons (CStep.step (PStep.c (p_assign (y := .row _ _) rfl (Sees.of rfl) rfl)) rfl rfl rfl rfl) ?_
    refine snil ?_
    refine f_ret ?_
    refine endsN_ret (resN_eq (resN_row rfl rfl rfl rfl) ?_)
    rfl

theorem Combined_spec (n : Nat) (op : Int) (p q : List Bool → Bool) (hn : n ≤ 16) (hop : 0 ≤ op ∧ op ≤ 15) :
    SpecN Go.Proofs.Try.prog 69 [iv op, .val (bytes (Sp.btab p n)), .val (bytes (Sp.btab q n))] 5 1 1 dby (Sp.btab (fun a => Sp.comb op (p a) (q a)) n) := by
  refine specN_of' Go.Proofs.Try.func69 rfl Go.Proofs.Try.ntmps69 rfl ?_
  refine f_seq ?_
  have hp16 := Sp.pow16 hn
  have hl1 := Sp.btab_len p n
  have hl2 := Sp.btab_len q n
  refine f_region ?_
  refine scons (CStep.step (PStep.c (p_assign (y := .emp) rfl (Sees.of rfl) rfl)) rfl rfl rfl rfl) ?_
  refine snil ?_
  refine f_seq ?_
  refine f_region ?_
  refine scons (CStep.step (PStep.c (p_move (y := .val _) rfl (Sees.of rfl) rfl)) rfl rfl rfl rfl) ?_
  refine scons (r_callS (q := false) (ob := 10010) 0 rfl wDia6_isf87 (cloneT_spec (Sp.btab p n)) (sa_cons (sh_of (Sees.of rfl) rfl) (sa_nil)) (.inl rfl) rfl rfl rfl rfl rfl) ?_
  refine scons (CStep.step (PStep.c (p_assign (y := .row _ _) rfl (Sees.of rfl) rfl)) rfl rfl rfl rfl) ?_
  refine snil ?_
  refine f_seq ?_
  refine f_seq ?_
  refine f_region ?_
  refine scons (CStep.step (PStep.c (p_move (y := .row _ _) rfl (Sees.of rfl) rfl)) rfl rfl rfl rfl) ?_
  refine scons (CStep.step (PStep.c (p_lenR rfl wDia6_isl91 (Sees.of rfl) rfl)) rfl rfl rfl rfl) ?_
  refine scons (CStep.step (PStep.c (p_move (y := .val _) rfl (Sees.of rfl) rfl)) rfl rfl rfl rfl) ?_
  refine snil ?_
  refine f_block ?_
  refine f_loop (α := Nat) (fun i => i ≤ 2 ^ n) (fun i => [(13, iv i), (12, iv (2 ^ n : Nat)), (7, .row 10010 0), (10010, .arr 0 5 1 1 dby 0 (Sp.fillTo (2 ^ n) (fun k : Nat => Sp.b01 (p (Sp.bits n k))) (fun k : Nat => Sp.b01 (Sp.comb op (p (Sp.bits n k)) (q (Sp.bits n k)))) i)), (0, iv op), (1, .val (bytes (Sp.btab p n))), (2, .val (bytes (Sp.btab q n))), (6, .emp)]) (fun i => 2 ^ n - i) 0 ?_ ?_ ?_
  · exact Nat.zero_le _
  · exact le_ofL ⟨rfl, (by rw [← Sp.btab_len p n]; rfl), rfl, (by rw [Sp.fill_zero, ← Sp.btab_map]; rfl), rfl, rfl, rfl, rfl, trivial⟩ rfl
  · rintro i hi
    have hi : i ≤ 2 ^ n := hi
    have hfl := Sp.fill_len (2 ^ n) (fun k : Nat => Sp.b01 (p (Sp.bits n k))) (fun k : Nat => Sp.b01 (Sp.comb op (p (Sp.bits n k)) (q (Sp.bits n k)))) i
    refine f_seq ?_
    refine f_region ?_
    refine scons (CStep.step (PStep.c (p_lss rfl (Sees.of rfl) (Sees.of rfl))) rfl rfl rfl rfl) ?_
    refine snil ?_
    refine f_seq ?_
    refine f_cond rfl ?_ ?_
    · intro hc1
      try simp only [bs] at hc1
      refine f_skip ?_
      refine f_seq ?_
      refine f_block ?_
      refine f_seq ?_
      refine f_region ?_
      refine scons (CStep.step (PStep.c (p_move (y := .val _) rfl (Sees.of rfl) rfl)) rfl rfl rfl rfl) ?_
      refine scons (CStep.step (PStep.c (p_assign (y := .val _) rfl (Sees.of rfl) rfl)) rfl rfl rfl rfl) ?_
      refine snil ?_
      have hb1 := Sp.btab_at p n i (by omega)
      have hP := Sp.b01_le (p (Sp.bits n i))
      have hb2 := Sp.btab_at q n i (by omega)
      have hQ := Sp.b01_le (q (Sp.bits n i))
      have hw : IntKind.u8.wrap (IntKind.u8.wrap (2 * (Sp.btab p n).getD i 0) + (Sp.btab q n).getD i 0) = 2 * Sp.b01 (p (Sp.bits n i)) + Sp.b01 (q (Sp.bits n i)) := by rw [hb1, hb2]; exact Sp.comb_sum
      refine f_draw wDia6_mix (by kernel_rfl) ?_
      refine dcons (CStep.step (PStep.c (p_move (y := .row _ _) rfl (Sees.of rfl) rfl)) rfl rfl rfl rfl) ?_
      refine dcons (CStep.step (PStep.c (p_move (y := .val _) rfl (Sees.of rfl) rfl)) rfl rfl rfl rfl) ?_
      refine dcons (CStep.step (PStep.c (p_move (y := .val _) rfl (Sees.of rfl) rfl)) rfl rfl rfl rfl) ?_
      refine dcons (CStep.step (PStep.c (p_move (y := .val _) rfl (Sees.of rfl) rfl)) rfl rfl rfl rfl) ?_
      refine dcons (CStep.step (PStep.c (p_move (y := .val _) rfl (Sees.of rfl) rfl)) rfl rfl rfl rfl) ?_
      refine dcons (CStep.step (PStep.c ((by first | exact p_indexN rfl wDia6_isl91 wDia6_siz5 (Sees.of rfl) (Sees.of rfl) (by omega) | exact p_index rfl wDia6_isl91 wDia6_siz5 (Sees.of rfl) (Sees.of rfl) (by omega) (by omega)))) rfl rfl rfl rfl) ?_
      refine dcons (CStep.step (PStep.c (p_load rfl wDia6_agg5 (Sees.of rfl) rfl)) rfl rfl rfl rfl) ?_
      refine dcons (CStep.step (PStep.c (p_mulW rfl (Sees.of rfl) (Sees.of rfl))) rfl rfl rfl rfl) ?_
      refine dcons (CStep.step (PStep.c (p_move (y := .val _) rfl (Sees.of rfl) rfl)) rfl rfl rfl rfl) ?_
      refine dcons (CStep.step (PStep.c (p_move (y := .val _) rfl (Sees.of rfl) rfl)) rfl rfl rfl rfl) ?_
      refine dcons (CStep.step (PStep.c ((by first | exact p_indexN rfl wDia6_isl91 wDia6_siz5 (Sees.of rfl) (Sees.of rfl) (by omega) | exact p_index rfl wDia6_isl91 wDia6_siz5 (Sees.of rfl) (Sees.of rfl) (by omega) (by omega)))) rfl rfl rfl rfl) ?_
      refine dcons (CStep.step (PStep.c (p_load rfl wDia6_agg5 (Sees.of rfl) rfl)) rfl rfl rfl rfl) ?_
      refine dcons (CStep.step (PStep.c (p_addW rfl (Sees.of rfl) (Sees.of rfl))) rfl rfl rfl rfl) ?_
      rw [hw]
      refine dcons (CStep.step (PStep.c (p_shr rfl (Sees.of rfl) (Sees.of rfl) (by omega) (by omega))) rfl rfl rfl rfl) ?_
      refine dcons (CStep.step (PStep.c (p_and1 rfl (Sees.of rfl) (Sees.of rfl))) rfl rfl rfl rfl) ?_
      refine dcons (CStep.step (PStep.c (p_conv rfl wDia6_int3 wDia6_int5 (Sees.of rfl))) rfl rfl rfl rfl) ?_
      refine dcons (CStep.step (PStep.c ((by first | exact p_indexR rfl wDia6_isl91 wDia6_siz5 (Sees.of rfl) rfl (Sees.of rfl) (by rw [hfl]; omega) | exact p_indexRZ rfl wDia6_isl91 wDia6_siz5 (Sees.of rfl) rfl (Sees.of rfl) (by omega) (by rw [hfl]; omega)))) rfl rfl rfl rfl) ?_
      refine dcons (r_storeE rfl wDia6_siz5 rfl rfl rfl (Sees.of rfl) rfl (by rw [hfl]; omega) (Sees.of rfl) rfl) ?_
      refine dnil (by kernel_rfl) ?_
      refine f_nil ?_
      show AWs _ _ _ _ _
      refine f_region ?_
      refine scons (CStep.step (PStep.c (p_add rfl (Sees.of rfl) (Sees.of rfl) (by omega))) rfl rfl rfl rfl) ?_
      refine scons (CStep.step (PStep.c (p_move (y := .val _) rfl (Sees.of rfl) rfl)) rfl rfl rfl rfl) ?_
      refine snil ?_
      refine f_back ⟨i + 1, ?_, ?_, le_ofL ⟨rfl, rfl, rfl, (by rw [← Sp.fill_to (by omega) (Sp.comb_wrap op (p (Sp.bits n i)) (q (Sp.bits n i)))]; rfl), rfl, rfl, rfl, rfl, trivial⟩ rfl⟩
      · omega
      · omega
    · intro hc1
      try simp only [bs] at hc1
      refine f_exit ?_
      show AWs _ _ _ _ _
      refine f_seq ?_
      refine f_region ?_
      refine scons (CStep.step (PStep.c (p_move (y := .row _ _) rfl (Sees.of rfl) rfl)) rfl rfl rfl rfl) ?_
      refine scons (CStep.step (PStep.c (p_assign (y := .row _ _) rfl (Sees.of rfl) rfl)) rfl rfl rfl rfl) ?_
      refine snil ?_
      refine f_ret ?_
      refine endsN_ret (resN_eq (resN_row rfl rfl rfl rfl) ?_)
      rw [Sp.fill_end _ _ (by omega), Sp.btab_map]

theorem Both_spec (n op : Int) (l : List Sp.Cho) (r : Int) (l' : List Sp.Cho) (r' : Int) :
    Spec Go.Proofs.Try.prog 39 [iv n, iv op, .val (dia l r), .val (dia l' r')] (two (dia (Sp.diaBoth n op l r l' r').1 (Sp.diaBoth n op l r l' r').2.1) (fault (Sp.diaBoth n op l r l' r').2.2.1 (Sp.diaBoth n op l r l' r').2.2.2)) := by
  refine spec_of' Go.Proofs.Try.func39 rfl Go.Proofs.Try.ntmps39 rfl ?_
  refine f_seq ?_
  refine f_region ?_
  refine scons (r_box (ob := 10006) rfl (Sees.of rfl) rfl rfl rfl rfl rfl rfl) ?_
  refine scons (r_box (ob := 10007) rfl (Sees.of rfl) rfl rfl rfl rfl rfl rfl) ?_
  refine scons (r_alloc (ob := 10008) rfl wDia6_zer41 rfl rfl rfl rfl rfl rfl) ?_
  refine scons (r_alloc (ob := 10009) rfl wDia6_zer28 rfl rfl rfl rfl rfl rfl) ?_
  refine snil ?_
  refine f_seq ?_
  refine f_seq ?_
  refine f_region ?_
  refine scons (CStep.step (PStep.c (p_move (y := .val _) rfl (Sees.of rfl) rfl)) rfl rfl rfl rfl) ?_
  refine scons (CStep.step (PStep.c (p_loadBS rfl wDia6_agg41 wDia6_siz41 (Sees.of rfl) rfl rfl rfl)) rfl rfl rfl rfl) ?_
  refine scons (CStep.step (c_call rfl wDia6_isf66 ⟨_, _, rfl, (Sees.of rfl), rfl, ⟨_, _, rfl, (Sees.of rfl), rfl, rfl⟩⟩ (diaCheck_spec n l r)) rfl rfl rfl rfl) ?_
  refine scons (r_alloc (ob := 10010) rfl wDia6_zer28 rfl rfl rfl rfl rfl rfl) ?_
  refine scons (r_storeS rfl wDia6_siz28 rfl rfl rfl (Sees.of rfl) rfl (Sees.of rfl) rfl rfl rfl rfl) ?_
  refine snil ?_
  refine f_seq ?_
  refine f_region ?_
  refine scons (CStep.step (PStep.c (p_fieldRef rfl wDia6_fld28_0 wDia6_siz3 rfl (Sees.of rfl) rfl)) rfl rfl rfl rfl) ?_
  refine scons (CStep.step (PStep.c (p_loadB (y := .val _) rfl wDia6_agg3 (Sees.of rfl) rfl rfl rfl rfl)) rfl rfl rfl rfl) ?_
  refine scons (CStep.step (PStep.c (p_neq rfl (Sees.of rfl) (Sees.of rfl))) rfl rfl rfl rfl) ?_
  refine snil ?_
  refine f_cond rfl ?_ ?_
  · intro hc1
    try simp only [bs] at hc1
    refine f_seq ?_
    refine f_draw wDia6_mix (by kernel_rfl) ?_
    refine dcons (CStep.step (PStep.c (p_build rfl wDia6_plc41 wDia6_zer41 (by decide) wDia6_zch41 rfl rfl)) rfl rfl rfl rfl) ?_
    refine dcons (CStep.step (PStep.c (p_loadBS rfl wDia6_agg28 wDia6_siz28 (Sees.of rfl) rfl rfl rfl)) rfl rfl rfl rfl) ?_
    refine dcons (r_storeS rfl wDia6_siz41 rfl rfl rfl (Sees.of rfl) rfl (Sees.of rfl) rfl rfl rfl rfl) ?_
    refine dcons (r_storeS rfl wDia6_siz28 rfl rfl rfl (Sees.of rfl) rfl (Sees.of rfl) rfl rfl rfl rfl) ?_
    refine dnil (by kernel_rfl) ?_
    refine f_ret ?_
    refine ends_ret (res_eq (res2 rfl (res_cell (by rfl) rfl rfl wDia6_agg41 wDia6_siz41 rfl rfl) (res_cell (by rfl) rfl rfl wDia6_agg28 wDia6_siz28 rfl rfl)) ?_)
    rw [Sp.diaBoth, if_pos hc1]
    all_goals rfl
  · intro hc1
    try simp only [bs] at hc1
    refine f_skip ?_
    refine f_seq ?_
    refine f_seq ?_
    refine f_region ?_
    refine scons (CStep.step (PStep.c (p_move (y := .val _) rfl (Sees.of rfl) rfl)) rfl rfl rfl rfl) ?_
    refine scons (CStep.step (PStep.c (p_loadBS rfl wDia6_agg41 wDia6_siz41 (Sees.of rfl) rfl rfl rfl)) rfl rfl rfl rfl) ?_
    refine scons (CStep.step (c_call rfl wDia6_isf66 ⟨_, _, rfl, (Sees.of rfl), rfl, ⟨_, _, rfl, (Sees.of rfl), rfl, rfl⟩⟩ (diaCheck_spec n l' r')) rfl rfl rfl rfl) ?_
    refine scons (r_alloc (ob := 10011) rfl wDia6_zer28 rfl rfl rfl rfl rfl rfl) ?_
    refine scons (r_storeS rfl wDia6_siz28 rfl rfl rfl (Sees.of rfl) rfl (Sees.of rfl) rfl rfl rfl rfl) ?_
    refine snil ?_
    refine f_seq ?_
    refine f_region ?_
    refine scons (CStep.step (PStep.c (p_fieldRef rfl wDia6_fld28_0 wDia6_siz3 rfl (Sees.of rfl) rfl)) rfl rfl rfl rfl) ?_
    refine scons (CStep.step (PStep.c (p_loadB (y := .val _) rfl wDia6_agg3 (Sees.of rfl) rfl rfl rfl rfl)) rfl rfl rfl rfl) ?_
    refine scons (CStep.step (PStep.c (p_neq rfl (Sees.of rfl) (Sees.of rfl))) rfl rfl rfl rfl) ?_
    refine snil ?_
    refine f_cond rfl ?_ ?_
    · intro hc2
      try simp only [bs] at hc2
      refine f_seq ?_
      refine f_draw wDia6_mix (by kernel_rfl) ?_
      refine dcons (CStep.step (PStep.c (p_build rfl wDia6_plc41 wDia6_zer41 (by decide) wDia6_zch41 rfl rfl)) rfl rfl rfl rfl) ?_
      refine dcons (CStep.step (PStep.c (p_loadBS rfl wDia6_agg28 wDia6_siz28 (Sees.of rfl) rfl rfl rfl)) rfl rfl rfl rfl) ?_
      refine dcons (r_storeS rfl wDia6_siz41 rfl rfl rfl (Sees.of rfl) rfl (Sees.of rfl) rfl rfl rfl rfl) ?_
      refine dcons (r_storeS rfl wDia6_siz28 rfl rfl rfl (Sees.of rfl) rfl (Sees.of rfl) rfl rfl rfl rfl) ?_
      refine dnil (by kernel_rfl) ?_
      refine f_ret ?_
      refine ends_ret (res_eq (res2 rfl (res_cell (by rfl) rfl rfl wDia6_agg41 wDia6_siz41 rfl rfl) (res_cell (by rfl) rfl rfl wDia6_agg28 wDia6_siz28 rfl rfl)) ?_)
      rw [Sp.diaBoth, if_neg (fun h => h hc1), if_pos hc2]
      all_goals rfl
    · intro hc2
      try simp only [bs] at hc2
      refine f_skip ?_
      refine f_seq ?_
      refine f_seq ?_
      refine f_region ?_
      refine scons (CStep.step (PStep.c (p_move (y := .val _) rfl (Sees.of rfl) rfl)) rfl rfl rfl rfl) ?_
      refine scons (CStep.step (PStep.c (p_lss rfl (Sees.of rfl) (Sees.of rfl))) rfl rfl rfl rfl) ?_
      refine scons (CStep.step (PStep.c (p_move (y := .val _) rfl (Sees.of rfl) rfl)) rfl rfl rfl rfl) ?_
      refine scons (CStep.guard rfl rfl rfl (fun hg0 => PStep.c (p_move (y := .val _) rfl (Sees.of rfl) rfl)) rfl rfl rfl rfl rfl) ?_
      refine scons (CStep.guard rfl rfl rfl (fun hg0 => PStep.c (p_gtr rfl (Sees.gv' rfl hg0) (Sees.of rfl))) rfl rfl rfl rfl rfl) ?_
      refine scons (CStep.step (PStep.c (p_or rfl (Sees.of rfl) (Sees.of rfl) (fun h => Sees.gv' rfl (beq_of_eq h)))) rfl rfl rfl rfl) ?_
      refine snil ?_
      refine f_cond rfl ?_ ?_
      · intro hc3
        try simp only [bs] at hc3
        refine f_seq ?_
        refine f_region ?_
        refine scons (CStep.step (PStep.c (p_build rfl wDia6_plc41 wDia6_zer41 (by decide) wDia6_zch41 rfl rfl)) rfl rfl rfl rfl) ?_
        refine scons (CStep.step (PStep.c (p_build rfl wDia6_plc28 wDia6_zer28 (by decide) wDia6_zch28 ⟨_, _, _, rfl, rfl, rfl, (Sees.of rfl), ⟨_, _, _, rfl, rfl, rfl, (Sees.of rfl), rfl⟩⟩ rfl)) rfl rfl rfl rfl) ?_
        refine scons (r_storeS rfl wDia6_siz41 rfl rfl rfl (Sees.of rfl) rfl (Sees.of rfl) rfl rfl rfl rfl) ?_
        refine scons (r_storeS rfl wDia6_siz28 rfl rfl rfl (Sees.of rfl) rfl (Sees.of rfl) rfl rfl rfl rfl) ?_
        refine snil ?_
        refine f_ret ?_
        refine ends_ret (res_eq (res2 rfl (res_cell (by rfl) rfl rfl wDia6_agg41 wDia6_siz41 rfl rfl) (res_cell (by rfl) rfl rfl wDia6_agg28 wDia6_siz28 rfl rfl)) ?_)
        rw [Sp.diaBoth, if_neg (fun h => h hc1), if_neg (fun h => h hc2), if_pos (by omega)]
        all_goals rfl
      · intro hc3
        try simp only [bs] at hc3
        obtain ⟨m, rfl⟩ : ∃ m : Nat, n = (m : Int) := ⟨n.toNat, by have := Sp.dia_ok hc1; omega⟩
        have hok := Sp.dia_ok hc1
        have hp16 := Sp.pow16 (n := m) (by omega)
        refine f_skip ?_
        refine f_seq ?_
        refine f_draw wDia6_mix (by kernel_rfl) ?_
        refine dcons (CStep.step (PStep.c (p_move (y := .val _) rfl (Sees.of rfl) rfl)) rfl rfl rfl rfl) ?_
        refine dcons (CStep.step (PStep.c (p_move (y := .val _) rfl (Sees.of rfl) rfl)) rfl rfl rfl rfl) ?_
        refine dcons (CStep.step (PStep.c (p_loadBS rfl wDia6_agg41 wDia6_siz41 (Sees.of rfl) rfl rfl rfl)) rfl rfl rfl rfl) ?_
        refine dcons (CStep.step (c_call rfl wDia6_isf67 ⟨_, _, rfl, (Sees.of rfl), rfl, ⟨_, _, rfl, (Sees.of rfl), rfl, rfl⟩⟩ ((tableOf_spec m l r hc1).spec 0)) rfl rfl rfl rfl) ?_
        refine dcons (CStep.step (PStep.c (p_move (y := .val _) rfl (Sees.of rfl) rfl)) rfl rfl rfl rfl) ?_
        refine dcons (CStep.step (PStep.c (p_loadBS rfl wDia6_agg41 wDia6_siz41 (Sees.of rfl) rfl rfl rfl)) rfl rfl rfl rfl) ?_
        refine dcons (CStep.step (c_call rfl wDia6_isf67 ⟨_, _, rfl, (Sees.of rfl), rfl, ⟨_, _, rfl, (Sees.of rfl), rfl, rfl⟩⟩ ((tableOf_spec m l' r' hc2).spec 0)) rfl rfl rfl rfl) ?_
        refine dcons (CStep.step (c_call rfl wDia6_isf69 ⟨_, _, rfl, (Sees.of rfl), rfl, ⟨_, _, rfl, (Sees.of rfl), rfl, ⟨_, _, rfl, (Sees.of rfl), rfl, rfl⟩⟩⟩ ((Combined_spec m op (Sp.dvalue l r) (Sp.dvalue l' r') (by omega) (by omega)).spec 0)) rfl rfl rfl rfl) ?_
        refine dcons (CStep.step (c_call rfl wDia6_isf52 ⟨_, _, rfl, (Sees.of rfl), rfl, rfl⟩ (Built_spec m (Sp.dtab (fun a => Sp.comb op (Sp.dvalue l r a) (Sp.dvalue l' r' a)) m) (by omega) (Sp.dtab_len _ _))) rfl rfl rfl rfl) ?_
        refine dcons (CStep.step (PStep.c (p_extract rfl (Sees.of rfl) rfl)) rfl rfl rfl rfl) ?_
        refine dcons (CStep.step (PStep.c (p_extract rfl (Sees.of rfl) rfl)) rfl rfl rfl rfl) ?_
        refine dcons (r_storeS rfl wDia6_siz41 rfl rfl rfl (Sees.of rfl) rfl (Sees.of rfl) rfl rfl rfl rfl) ?_
        refine dcons (r_storeS rfl wDia6_siz28 rfl rfl rfl (Sees.of rfl) rfl (Sees.of rfl) rfl rfl rfl rfl) ?_
        refine dnil (by kernel_rfl) ?_
        refine f_ret ?_
        refine ends_ret (res_eq (res2 rfl (res_cell (by rfl) rfl rfl wDia6_agg41 wDia6_siz41 rfl rfl) (res_cell (by rfl) rfl rfl wDia6_agg28 wDia6_siz28 rfl rfl)) ?_)
        rw [Sp.diaBoth, if_neg (fun h => h hc1), if_neg (fun h => h hc2), if_neg (by omega), Int.toNat_natCast]
        all_goals rfl

theorem both_spec (n : Int) (l : List Sp.Cho) (r : Int) (l' : List Sp.Cho) (r' : Int) :
    Spec Go.Proofs.Try.prog 40 [iv n, .val (dia l r), .val (dia l' r')] (fault (Sp.bothWrong n l r l' r').1 (Sp.bothWrong n l r l' r').2) := by
  refine spec_of' Go.Proofs.Try.func40 rfl Go.Proofs.Try.ntmps40 rfl ?_
  refine f_seq ?_
  refine f_region ?_
  refine scons (r_box (ob := 10004) rfl (Sees.of rfl) rfl rfl rfl rfl rfl rfl) ?_
  refine scons (r_box (ob := 10005) rfl (Sees.of rfl) rfl rfl rfl rfl rfl rfl) ?_
  refine scons (r_alloc (ob := 10006) rfl wDia6_zer28 rfl rfl rfl rfl rfl rfl) ?_
  refine snil ?_
  refine f_seq ?_
  refine f_region ?_
  refine scons (CStep.step (PStep.c (p_move (y := .val _) rfl (Sees.of rfl) rfl)) rfl rfl rfl rfl) ?_
  refine scons (CStep.step (PStep.c (p_loadBS rfl wDia6_agg41 wDia6_siz41 (Sees.of rfl) rfl rfl rfl)) rfl rfl rfl rfl) ?_
  refine scons (CStep.step (c_call rfl wDia6_isf29 ⟨_, _, rfl, (Sees.of rfl), rfl, ⟨_, _, rfl, (Sees.of rfl), rfl, rfl⟩⟩ (diaCheckR_spec n l r)) rfl rfl rfl rfl) ?_
  refine scons (r_alloc (ob := 10007) rfl wDia6_zer28 rfl rfl rfl rfl rfl rfl) ?_
  refine scons (r_storeS rfl wDia6_siz28 rfl rfl rfl (Sees.of rfl) rfl (Sees.of rfl) rfl rfl rfl rfl) ?_
  refine snil ?_
  refine f_seq ?_
  refine f_seq ?_
  refine f_region ?_
  refine scons (CStep.step (PStep.c (p_fieldRef rfl wDia6_fld28_0 wDia6_siz3 rfl (Sees.of rfl) rfl)) rfl rfl rfl rfl) ?_
  refine scons (CStep.step (PStep.c (p_loadB (y := .val _) rfl wDia6_agg3 (Sees.of rfl) rfl rfl rfl rfl)) rfl rfl rfl rfl) ?_
  refine scons (CStep.step (PStep.c (p_eql rfl (Sees.of rfl) (Sees.of rfl))) rfl rfl rfl rfl) ?_
  refine snil ?_
  refine f_cond rfl ?_ ?_
  · intro hc1
    try simp only [bs] at hc1
    refine f_region ?_
    refine scons (CStep.step (PStep.c (p_move (y := .val _) rfl (Sees.of rfl) rfl)) rfl rfl rfl rfl) ?_
    refine scons (CStep.step (PStep.c (p_loadBS rfl wDia6_agg41 wDia6_siz41 (Sees.of rfl) rfl rfl rfl)) rfl rfl rfl rfl) ?_
    refine scons (CStep.step (c_call rfl wDia6_isf29 ⟨_, _, rfl, (Sees.of rfl), rfl, ⟨_, _, rfl, (Sees.of rfl), rfl, rfl⟩⟩ (diaCheckR_spec n l' r')) rfl rfl rfl rfl) ?_
    refine scons (r_storeS rfl wDia6_siz28 rfl rfl rfl (Sees.of rfl) rfl (Sees.of rfl) rfl rfl rfl rfl) ?_
    refine snil ?_
    refine f_seq ?_
    refine f_region ?_
    refine scons (CStep.step (PStep.c (p_loadBS rfl wDia6_agg28 wDia6_siz28 (Sees.of rfl) rfl rfl rfl)) rfl rfl rfl rfl) ?_
    refine scons (r_storeS rfl wDia6_siz28 rfl rfl rfl (Sees.of rfl) rfl (Sees.of rfl) rfl rfl rfl rfl) ?_
    refine snil ?_
    refine f_ret ?_
    refine ends_ret (res_eq (res1 rfl (res_cell (by rfl) rfl rfl wDia6_agg28 wDia6_siz28 rfl rfl)) ?_)
    rw [Sp.bothWrong, if_pos hc1]
    all_goals rfl
  · intro hc1
    try simp only [bs] at hc1
    refine f_skip ?_
    refine f_seq ?_
    refine f_region ?_
    refine scons (CStep.step (PStep.c (p_loadBS rfl wDia6_agg28 wDia6_siz28 (Sees.of rfl) rfl rfl rfl)) rfl rfl rfl rfl) ?_
    refine scons (r_storeS rfl wDia6_siz28 rfl rfl rfl (Sees.of rfl) rfl (Sees.of rfl) rfl rfl rfl rfl) ?_
    refine snil ?_
    refine f_ret ?_
    refine ends_ret (res_eq (res1 rfl (res_cell (by rfl) rfl rfl wDia6_agg28 wDia6_siz28 rfl rfl)) ?_)
    rw [Sp.bothWrong, if_neg hc1]
    all_goals rfl

theorem Forget_spec (n : Nat) (p : List Bool → Bool) (v : Int) (hn : n ≤ 16) (hv : 1 ≤ v ∧ v ≤ n) :
    SpecN Go.Proofs.Try.prog 68 [.val (bytes (Sp.btab p n)), iv n, iv v] 5 1 1 dby (Sp.btab (Sp.some2 p v) n) := by
  refine specN_of' Go.Proofs.Try.func68 rfl Go.Proofs.Try.ntmps68 rfl ?_
  refine f_seq ?_
  have hp16 := Sp.pow16 hn
  have hl1 := Sp.btab_len p n
  have hpv : ((n : Int) - v).toNat = n - v.toNat := by omega
  have hpw := Sp.pow_ok (m := n - v.toNat) (by omega)
  have hpn : (1 : Int) * 2 ^ ((n : Int) - v).toNat = ((2 ^ (n - v.toNat) : Nat) : Int) := by rw [hpv]; simp
  have hpl : 2 ^ (n - v.toNat) ≤ 65536 := Sp.pow16 (by omega)
  have hpw2 : -9223372036854775808 ≤ (1 : Int) * 2 ^ ((n : Int) - v).toNat ∧ (1 : Int) * 2 ^ ((n : Int) - v).toNat ≤ 9223372036854775807 := by
    rw [hpn]
    exact ⟨Int.le_trans (by decide) (Int.natCast_nonneg _), Int.le_trans (Int.ofNat_le.2 hpl) (by decide)⟩
  refine f_region ?_
  refine scons (CStep.step (PStep.c (p_assign (y := .emp) rfl (Sees.of rfl) rfl)) rfl rfl rfl rfl) ?_
  refine snil ?_
  refine f_seq ?_
  refine f_region ?_
  refine scons (CStep.step (PStep.c (p_move (y := .val _) rfl (Sees.of rfl) rfl)) rfl rfl rfl rfl) ?_
  refine scons (r_callS (q := false) (ob := 10011) 0 rfl wDia6_isf87 (cloneT_spec (Sp.btab p n)) (sa_cons (sh_of (Sees.of rfl) rfl) (sa_nil)) (.inl rfl) rfl rfl rfl rfl rfl) ?_
  refine scons (CStep.step (PStep.c (p_assign (y := .row _ _) rfl (Sees.of rfl) rfl)) rfl rfl rfl rfl) ?_
  refine snil ?_
  refine f_seq ?_
  refine f_region ?_
  refine scons (CStep.step (PStep.c (p_move (y := .val _) rfl (Sees.of rfl) rfl)) rfl rfl rfl rfl) ?_
  refine scons (CStep.step (PStep.c (p_move (y := .val _) rfl (Sees.of rfl) rfl)) rfl rfl rfl rfl) ?_
  refine scons (CStep.step (PStep.c (p_sub rfl (Sees.of rfl) (Sees.of rfl) (by omega))) rfl rfl rfl rfl) ?_
  refine scons (CStep.step (PStep.c (p_shl rfl (Sees.of rfl) (Sees.of rfl) (by omega) (by omega) (by first | omega | assumption))) rfl rfl rfl rfl) ?_
  refine scons (CStep.step (PStep.c (p_assign (y := .val _) rfl (Sees.of rfl) rfl)) rfl rfl rfl rfl) ?_
  refine snil ?_
  refine f_seq ?_
  refine f_seq ?_
  refine f_region ?_
  refine scons (CStep.step (PStep.c (p_move (y := .row _ _) rfl (Sees.of rfl) rfl)) rfl rfl rfl rfl) ?_
  refine scons (CStep.step (PStep.c (p_lenR rfl wDia6_isl91 (Sees.of rfl) rfl)) rfl rfl rfl rfl) ?_
  refine scons (CStep.step (PStep.c (p_move (y := .val _) rfl (Sees.of rfl) rfl)) rfl rfl rfl rfl) ?_
  refine snil ?_
  refine f_block ?_
  refine f_loop (α := Nat) (fun i => i ≤ 2 ^ n) (fun i => [(18, iv i), (17, iv (2 ^ n : Nat)), (8, iv (2 ^ (n - v.toNat) : Nat)), (7, .row 10011 0), (10011, .arr 0 5 1 1 dby 0 (Sp.fillTo (2 ^ n) (fun k : Nat => Sp.b01 (p (Sp.bits n k))) (fun k : Nat => Sp.b01 (Sp.some2 p v (Sp.bits n k))) i)), (0, .val (bytes (Sp.btab p n))), (6, .emp)]) (fun i => 2 ^ n - i) 0 ?_ ?_ ?_
  · exact Nat.zero_le _
  · exact le_ofL ⟨rfl, (by rw [← Sp.btab_len p n]; rfl), (by rw [← hpn]; rfl), rfl, (by rw [Sp.fill_zero, ← Sp.btab_map]; rfl), rfl, rfl, trivial⟩ rfl
  · rintro i hi
    have hi : i ≤ 2 ^ n := hi
    have hfl := Sp.fill_len (2 ^ n) (fun k : Nat => Sp.b01 (p (Sp.bits n k))) (fun k : Nat => Sp.b01 (Sp.some2 p v (Sp.bits n k))) i
    refine f_seq ?_
    refine f_region ?_
    refine scons (CStep.step (PStep.c (p_lss rfl (Sees.of rfl) (Sees.of rfl))) rfl rfl rfl rfl) ?_
    refine snil ?_
    refine f_seq ?_
    refine f_cond rfl ?_ ?_
    · intro hc1
      try simp only [bs] at hc1
      refine f_skip ?_
      refine f_seq ?_
      refine f_block ?_
      refine f_seq ?_
      refine f_region ?_
      refine scons (CStep.step (PStep.c (p_move (y := .val _) rfl (Sees.of rfl) rfl)) rfl rfl rfl rfl) ?_
      refine scons (CStep.step (PStep.c (p_assign (y := .val _) rfl (Sees.of rfl) rfl)) rfl rfl rfl rfl) ?_
      refine snil ?_
      have hb1 := Sp.btab_at p n i (by omega)
      have hP := Sp.b01_le (p (Sp.bits n i))
      have hxl := Sp.xor_lt (n := n) (i := i) (v := v.toNat) (by omega) (by omega) (by omega)
      have hb2 := Sp.btab_at p n ((i ^^^ 2 ^ (n - v.toNat) : Nat)) hxl
      refine f_draw wDia6_mix (by kernel_rfl) ?_
      refine dcons (CStep.step (PStep.c (p_move (y := .row _ _) rfl (Sees.of rfl) rfl)) rfl rfl rfl rfl) ?_
      refine dcons (CStep.step (PStep.c (p_move (y := .val _) rfl (Sees.of rfl) rfl)) rfl rfl rfl rfl) ?_
      refine dcons (CStep.step (PStep.c (p_move (y := .val _) rfl (Sees.of rfl) rfl)) rfl rfl rfl rfl) ?_
      refine dcons (CStep.step (PStep.c (p_move (y := .val _) rfl (Sees.of rfl) rfl)) rfl rfl rfl rfl) ?_
      refine dcons (CStep.step (PStep.c ((by first | exact p_indexN rfl wDia6_isl91 wDia6_siz5 (Sees.of rfl) (Sees.of rfl) (by omega) | exact p_index rfl wDia6_isl91 wDia6_siz5 (Sees.of rfl) (Sees.of rfl) (by omega) (by omega)))) rfl rfl rfl rfl) ?_
      refine dcons (CStep.step (PStep.c (p_load rfl wDia6_agg5 (Sees.of rfl) rfl)) rfl rfl rfl rfl) ?_
      refine dcons (CStep.step (PStep.c (p_move (y := .val _) rfl (Sees.of rfl) rfl)) rfl rfl rfl rfl) ?_
      refine dcons (CStep.step (PStep.c (p_move (y := .val _) rfl (Sees.of rfl) rfl)) rfl rfl rfl rfl) ?_
      refine dcons (CStep.step (PStep.c (p_move (y := .val _) rfl (Sees.of rfl) rfl)) rfl rfl rfl rfl) ?_
      refine dcons (CStep.step (PStep.c (p_xorN rfl (Sees.of rfl) (Sees.of rfl) (by omega) (by omega))) rfl rfl rfl rfl) ?_
      refine dcons (CStep.step (PStep.c ((by first | exact p_indexN rfl wDia6_isl91 wDia6_siz5 (Sees.of rfl) (Sees.of rfl) (by rw [hl1]; exact hxl) | exact p_index rfl wDia6_isl91 wDia6_siz5 (Sees.of rfl) (Sees.of rfl) (by omega) (by rw [hl1]; exact hxl)))) rfl rfl rfl rfl) ?_
      refine dcons (CStep.step (PStep.c (p_load rfl wDia6_agg5 (Sees.of rfl) rfl)) rfl rfl rfl rfl) ?_
      refine dcons (CStep.step (PStep.c (p_or8 (a := p (Sp.bits n i)) (b := p (Sp.bits n (((i ^^^ 2 ^ (n - v.toNat) : Nat)) : Int))) rfl (Sees.of (congrArg (fun q => AV.val (.int .u8 q)) hb1)) (Sees.of (congrArg (fun q => AV.val (.int .u8 q)) hb2)))) rfl rfl rfl rfl) ?_
      refine dcons (CStep.step (PStep.c ((by first | exact p_indexR rfl wDia6_isl91 wDia6_siz5 (Sees.of rfl) rfl (Sees.of rfl) (by rw [hfl]; omega) | exact p_indexRZ rfl wDia6_isl91 wDia6_siz5 (Sees.of rfl) rfl (Sees.of rfl) (by omega) (by rw [hfl]; omega)))) rfl rfl rfl rfl) ?_
      refine dcons (r_storeE rfl wDia6_siz5 rfl rfl rfl (Sees.of rfl) rfl (by rw [hfl]; omega) (Sees.of rfl) rfl) ?_
      refine dnil (by kernel_rfl) ?_
      refine f_nil ?_
      show AWs _ _ _ _ _
      refine f_region ?_
      refine scons (CStep.step (PStep.c (p_add rfl (Sees.of rfl) (Sees.of rfl) (by omega))) rfl rfl rfl rfl) ?_
      refine scons (CStep.step (PStep.c (p_move (y := .val _) rfl (Sees.of rfl) rfl)) rfl rfl rfl rfl) ?_
      refine snil ?_
      refine f_back ⟨i + 1, ?_, ?_, le_ofL ⟨rfl, rfl, rfl, rfl, (by rw [← Sp.fill_to (by omega) (Sp.some_xor p hv)]; rfl), rfl, rfl, trivial⟩ rfl⟩
      · omega
      · omega
    · intro hc1
      try simp only [bs] at hc1
      refine f_exit ?_
      show AWs _ _ _ _ _
      refine f_seq ?_
      refine f_region ?_
      refine scons (CStep.step (PStep.c (p_move (y := .row _ _) rfl (Sees.of rfl) rfl)) rfl rfl rfl rfl) ?_
      refine scons (CStep.step (PStep.c (p_assign (y := .row _ _) rfl (Sees.of rfl) rfl)) rfl rfl rfl rfl) ?_
      refine snil ?_
      refine f_ret ?_
      refine endsN_ret (resN_eq (resN_row rfl rfl rfl rfl) ?_)
      rw [Sp.fill_end _ _ (by omega), Sp.btab_map]

theorem Some_spec (n : Int) (l : List Sp.Cho) (r v : Int) :
    Spec Go.Proofs.Try.prog 37 [iv n, .val (dia l r), iv v] (two (dia (Sp.diaSome n l r v).1 (Sp.diaSome n l r v).2.1) (fault (Sp.diaSome n l r v).2.2.1 (Sp.diaSome n l r v).2.2.2)) := by
  refine spec_of' Go.Proofs.Try.func37 rfl Go.Proofs.Try.ntmps37 rfl ?_
  refine f_seq ?_
  refine f_region ?_
  refine scons (r_box (ob := 10004) rfl (Sees.of rfl) rfl rfl rfl rfl rfl rfl) ?_
  refine scons (r_alloc (ob := 10006) rfl wDia6_zer41 rfl rfl rfl rfl rfl rfl) ?_
  refine scons (r_alloc (ob := 10007) rfl wDia6_zer28 rfl rfl rfl rfl rfl rfl) ?_
  refine snil ?_
  refine f_seq ?_
  refine f_seq ?_
  refine f_region ?_
  refine scons (CStep.step (PStep.c (p_move (y := .val _) rfl (Sees.of rfl) rfl)) rfl rfl rfl rfl) ?_
  refine scons (CStep.step (PStep.c (p_loadBS rfl wDia6_agg41 wDia6_siz41 (Sees.of rfl) rfl rfl rfl)) rfl rfl rfl rfl) ?_
  refine scons (CStep.step (c_call rfl wDia6_isf66 ⟨_, _, rfl, (Sees.of rfl), rfl, ⟨_, _, rfl, (Sees.of rfl), rfl, rfl⟩⟩ (diaCheck_spec n l r)) rfl rfl rfl rfl) ?_
  refine scons (r_alloc (ob := 10008) rfl wDia6_zer28 rfl rfl rfl rfl rfl rfl) ?_
  refine scons (r_storeS rfl wDia6_siz28 rfl rfl rfl (Sees.of rfl) rfl (Sees.of rfl) rfl rfl rfl rfl) ?_
  refine snil ?_
  refine f_seq ?_
  refine f_region ?_
  refine scons (CStep.step (PStep.c (p_fieldRef rfl wDia6_fld28_0 wDia6_siz3 rfl (Sees.of rfl) rfl)) rfl rfl rfl rfl) ?_
  refine scons (CStep.step (PStep.c (p_loadB (y := .val _) rfl wDia6_agg3 (Sees.of rfl) rfl rfl rfl rfl)) rfl rfl rfl rfl) ?_
  refine scons (CStep.step (PStep.c (p_neq rfl (Sees.of rfl) (Sees.of rfl))) rfl rfl rfl rfl) ?_
  refine snil ?_
  refine f_cond rfl ?_ ?_
  · intro hc1
    try simp only [bs] at hc1
    refine f_seq ?_
    refine f_draw wDia6_mix (by kernel_rfl) ?_
    refine dcons (CStep.step (PStep.c (p_build rfl wDia6_plc41 wDia6_zer41 (by decide) wDia6_zch41 rfl rfl)) rfl rfl rfl rfl) ?_
    refine dcons (CStep.step (PStep.c (p_loadBS rfl wDia6_agg28 wDia6_siz28 (Sees.of rfl) rfl rfl rfl)) rfl rfl rfl rfl) ?_
    refine dcons (r_storeS rfl wDia6_siz41 rfl rfl rfl (Sees.of rfl) rfl (Sees.of rfl) rfl rfl rfl rfl) ?_
    refine dcons (r_storeS rfl wDia6_siz28 rfl rfl rfl (Sees.of rfl) rfl (Sees.of rfl) rfl rfl rfl rfl) ?_
    refine dnil (by kernel_rfl) ?_
    refine f_ret ?_
    refine ends_ret (res_eq (res2 rfl (res_cell (by rfl) rfl rfl wDia6_agg41 wDia6_siz41 rfl rfl) (res_cell (by rfl) rfl rfl wDia6_agg28 wDia6_siz28 rfl rfl)) ?_)
    rw [Sp.diaSome, if_pos hc1]
    all_goals rfl
  · intro hc1
    try simp only [bs] at hc1
    refine f_skip ?_
    refine f_seq ?_
    refine f_seq ?_
    refine f_region ?_
    refine scons (CStep.step (PStep.c (p_move (y := .val _) rfl (Sees.of rfl) rfl)) rfl rfl rfl rfl) ?_
    refine scons (CStep.step (PStep.c (p_lss rfl (Sees.of rfl) (Sees.of rfl))) rfl rfl rfl rfl) ?_
    refine scons (CStep.step (PStep.c (p_move (y := .val _) rfl (Sees.of rfl) rfl)) rfl rfl rfl rfl) ?_
    refine scons (CStep.guard rfl rfl rfl (fun hg0 => PStep.c (p_move (y := .val _) rfl (Sees.of rfl) rfl)) rfl rfl rfl rfl rfl) ?_
    refine scons (CStep.guard rfl rfl rfl (fun hg0 => PStep.c (p_move (y := .val _) rfl (Sees.of rfl) rfl)) rfl rfl rfl rfl rfl) ?_
    refine scons (CStep.guard rfl rfl rfl (fun hg0 => PStep.c (p_gtr rfl (Sees.gv' rfl hg0) (Sees.gv' rfl hg0))) rfl rfl rfl rfl rfl) ?_
    refine scons (CStep.step (PStep.c (p_or rfl (Sees.of rfl) (Sees.of rfl) (fun h => Sees.gv' rfl (beq_of_eq h)))) rfl rfl rfl rfl) ?_
    refine snil ?_
    refine f_cond rfl ?_ ?_
    · intro hc2
      try simp only [bs] at hc2
      refine f_seq ?_
      refine f_region ?_
      refine scons (CStep.step (PStep.c (p_build rfl wDia6_plc41 wDia6_zer41 (by decide) wDia6_zch41 rfl rfl)) rfl rfl rfl rfl) ?_
      refine scons (CStep.step (PStep.c (p_build rfl wDia6_plc28 wDia6_zer28 (by decide) wDia6_zch28 ⟨_, _, _, rfl, rfl, rfl, (Sees.of rfl), ⟨_, _, _, rfl, rfl, rfl, (Sees.of rfl), rfl⟩⟩ rfl)) rfl rfl rfl rfl) ?_
      refine scons (r_storeS rfl wDia6_siz41 rfl rfl rfl (Sees.of rfl) rfl (Sees.of rfl) rfl rfl rfl rfl) ?_
      refine scons (r_storeS rfl wDia6_siz28 rfl rfl rfl (Sees.of rfl) rfl (Sees.of rfl) rfl rfl rfl rfl) ?_
      refine snil ?_
      refine f_ret ?_
      refine ends_ret (res_eq (res2 rfl (res_cell (by rfl) rfl rfl wDia6_agg41 wDia6_siz41 rfl rfl) (res_cell (by rfl) rfl rfl wDia6_agg28 wDia6_siz28 rfl rfl)) ?_)
      rw [Sp.diaSome, if_neg (fun h => h hc1), if_pos (by omega)]
      all_goals rfl
    · intro hc2
      try simp only [bs] at hc2
      obtain ⟨m, rfl⟩ : ∃ m : Nat, n = (m : Int) := ⟨n.toNat, by have := Sp.dia_ok hc1; omega⟩
      have hok := Sp.dia_ok hc1
      have hp16 := Sp.pow16 (n := m) (by omega)
      refine f_skip ?_
      refine f_seq ?_
      refine f_region ?_
      refine scons (CStep.step (PStep.c (p_move (y := .val _) rfl (Sees.of rfl) rfl)) rfl rfl rfl rfl) ?_
      refine scons (CStep.step (PStep.c (p_loadBS rfl wDia6_agg41 wDia6_siz41 (Sees.of rfl) rfl rfl rfl)) rfl rfl rfl rfl) ?_
      refine scons (CStep.step (c_call rfl wDia6_isf67 ⟨_, _, rfl, (Sees.of rfl), rfl, ⟨_, _, rfl, (Sees.of rfl), rfl, rfl⟩⟩ ((tableOf_spec m l r hc1).spec 0)) rfl rfl rfl rfl) ?_
      refine scons (CStep.step (PStep.c (p_move (y := .val _) rfl (Sees.of rfl) rfl)) rfl rfl rfl rfl) ?_
      refine scons (CStep.step (PStep.c (p_move (y := .val _) rfl (Sees.of rfl) rfl)) rfl rfl rfl rfl) ?_
      refine scons (CStep.step (c_call rfl wDia6_isf68 ⟨_, _, rfl, (Sees.of rfl), rfl, ⟨_, _, rfl, (Sees.of rfl), rfl, ⟨_, _, rfl, (Sees.of rfl), rfl, rfl⟩⟩⟩ ((Forget_spec m (Sp.dvalue l r) v (by omega) (by omega)).spec 0)) rfl rfl rfl rfl) ?_
      refine scons (CStep.step (c_call rfl wDia6_isf52 ⟨_, _, rfl, (Sees.of rfl), rfl, rfl⟩ (Built_spec m (Sp.dtab (Sp.some2 (Sp.dvalue l r) v) m) (by omega) (Sp.dtab_len _ _))) rfl rfl rfl rfl) ?_
      refine scons (CStep.step (PStep.c (p_extract rfl (Sees.of rfl) rfl)) rfl rfl rfl rfl) ?_
      refine scons (CStep.step (PStep.c (p_extract rfl (Sees.of rfl) rfl)) rfl rfl rfl rfl) ?_
      refine scons (r_storeS rfl wDia6_siz41 rfl rfl rfl (Sees.of rfl) rfl (Sees.of rfl) rfl rfl rfl rfl) ?_
      refine scons (r_storeS rfl wDia6_siz28 rfl rfl rfl (Sees.of rfl) rfl (Sees.of rfl) rfl rfl rfl rfl) ?_
      refine snil ?_
      refine f_ret ?_
      refine ends_ret (res_eq (res2 rfl (res_cell (by rfl) rfl rfl wDia6_agg41 wDia6_siz41 rfl rfl) (res_cell (by rfl) rfl rfl wDia6_agg28 wDia6_siz28 rfl rfl)) ?_)
      rw [Sp.diaSome, if_neg (fun h => h hc1), if_neg (by omega), Int.toNat_natCast]
      all_goals rfl

theorem DiaBoths_spec (n op : Int) (l : List Sp.Cho) (r : Int) (l' : List Sp.Cho) (r' : Int) :
    Spec Go.Proofs.Try.prog 10 [iv n, iv op, .val (dia l r), .val (dia l' r')] (D.bool true) := by
  refine spec_of' Go.Proofs.Try.func10 rfl Go.Proofs.Try.ntmps10 rfl ?_
  refine f_seq ?_
  refine f_region ?_
  refine scons (r_box (ob := 10006) rfl (Sees.of rfl) rfl rfl rfl rfl rfl rfl) ?_
  refine scons (r_box (ob := 10007) rfl (Sees.of rfl) rfl rfl rfl rfl rfl rfl) ?_
  refine scons (CStep.step (PStep.c (p_assign (y := .val _) rfl (Sees.of rfl) rfl)) rfl rfl rfl rfl) ?_
  refine snil ?_
  refine f_seq ?_
  refine f_seq ?_
  refine f_region ?_
  refine scons (CStep.step (PStep.c (p_move (y := .val _) rfl (Sees.of rfl) rfl)) rfl rfl rfl rfl) ?_
  refine scons (CStep.step (PStep.c (p_loadBS rfl wDia6_agg41 wDia6_siz41 (Sees.of rfl) rfl rfl rfl)) rfl rfl rfl rfl) ?_
  refine scons (CStep.step (c_call rfl wDia6_isf34 ⟨_, _, rfl, (Sees.of rfl), rfl, ⟨_, _, rfl, (Sees.of rfl), rfl, rfl⟩⟩ (large_spec n l r)) rfl rfl rfl rfl) ?_
  refine scons (CStep.step (PStep.c (p_move (y := .val _) rfl (Sees.of rfl) rfl)) rfl rfl rfl rfl) ?_
  refine scons (CStep.guard rfl rfl rfl (fun hg0 => PStep.c (p_move (y := .val _) rfl (Sees.of rfl) rfl)) rfl rfl rfl rfl rfl) ?_
  refine scons (CStep.guard rfl rfl rfl (fun hg0 => PStep.c (p_loadBS rfl wDia6_agg41 wDia6_siz41 (Sees.of rfl) rfl rfl rfl)) rfl rfl rfl rfl rfl) ?_
  refine scons (CStep.guard rfl rfl rfl (fun hg0 => c_call rfl wDia6_isf34 ⟨_, _, rfl, (Sees.gv' rfl hg0), rfl, ⟨_, _, rfl, (Sees.gv' rfl hg0), rfl, rfl⟩⟩ (large_spec n l' r')) rfl rfl rfl rfl rfl) ?_
  refine scons (CStep.step (PStep.c (p_or rfl (Sees.of rfl) (Sees.of rfl) (fun h => Sees.gv' rfl (beq_of_eq h)))) rfl rfl rfl rfl) ?_
  refine snil ?_
  refine f_cond rfl ?_ ?_
  · intro hc1
    try simp only [bs] at hc1
    refine f_seq ?_
    refine f_region ?_
    refine scons (CStep.step (PStep.c (p_assign (y := .val _) rfl (Sees.of rfl) rfl)) rfl rfl rfl rfl) ?_
    refine snil ?_
    refine f_ret ?_
    refine ends_ret (res_eq (res1 rfl (res_tmp rfl (Sees.of rfl))) ?_)
    rfl
  · intro hc1
    try simp only [bs] at hc1
    refine f_skip ?_
    refine f_seq ?_
    refine f_region ?_
    refine scons (CStep.step (PStep.c (p_move (y := .val _) rfl (Sees.of rfl) rfl)) rfl rfl rfl rfl) ?_
    refine scons (CStep.step (PStep.c (p_move (y := .val _) rfl (Sees.of rfl) rfl)) rfl rfl rfl rfl) ?_
    refine scons (CStep.step (PStep.c (p_loadBS rfl wDia6_agg41 wDia6_siz41 (Sees.of rfl) rfl rfl rfl)) rfl rfl rfl rfl) ?_
    refine scons (CStep.step (PStep.c (p_loadBS rfl wDia6_agg41 wDia6_siz41 (Sees.of rfl) rfl rfl rfl)) rfl rfl rfl rfl) ?_
    refine scons (CStep.step (c_call rfl wDia6_isf39 ⟨_, _, rfl, (Sees.of rfl), rfl, ⟨_, _, rfl, (Sees.of rfl), rfl, ⟨_, _, rfl, (Sees.of rfl), rfl, ⟨_, _, rfl, (Sees.of rfl), rfl, rfl⟩⟩⟩⟩ (Both_spec n op l r l' r')) rfl rfl rfl rfl) ?_
    refine scons (CStep.step (PStep.c (p_move (y := .val _) rfl (Sees.of rfl) rfl)) rfl rfl rfl rfl) ?_
    refine scons (CStep.step (PStep.c (p_extract rfl (Sees.of rfl) rfl)) rfl rfl rfl rfl) ?_
    refine scons (CStep.step (PStep.c (p_extract rfl (Sees.of rfl) rfl)) rfl rfl rfl rfl) ?_
    refine scons (r_alloc (ob := 10009) rfl wDia6_zer41 rfl rfl rfl rfl rfl rfl) ?_
    refine scons (r_alloc (ob := 10010) rfl wDia6_zer28 rfl rfl rfl rfl rfl rfl) ?_
    refine scons (r_storeS rfl wDia6_siz41 rfl rfl rfl (Sees.of rfl) rfl (Sees.of rfl) rfl rfl rfl rfl) ?_
    refine scons (r_storeS rfl wDia6_siz28 rfl rfl rfl (Sees.of rfl) rfl (Sees.of rfl) rfl rfl rfl rfl) ?_
    refine snil ?_
    refine f_seq ?_
    refine f_region ?_
    refine scons (CStep.step (PStep.c (p_move (y := .val _) rfl (Sees.of rfl) rfl)) rfl rfl rfl rfl) ?_
    refine scons (CStep.step (PStep.c (p_loadBS rfl wDia6_agg41 wDia6_siz41 (Sees.of rfl) rfl rfl rfl)) rfl rfl rfl rfl) ?_
    refine scons (CStep.step (PStep.c (p_loadBS rfl wDia6_agg41 wDia6_siz41 (Sees.of rfl) rfl rfl rfl)) rfl rfl rfl rfl) ?_
    refine scons (CStep.step (c_call rfl wDia6_isf40 ⟨_, _, rfl, (Sees.of rfl), rfl, ⟨_, _, rfl, (Sees.of rfl), rfl, ⟨_, _, rfl, (Sees.of rfl), rfl, rfl⟩⟩⟩ (both_spec n l r l' r')) rfl rfl rfl rfl) ?_
    refine scons (r_alloc (ob := 10011) rfl wDia6_zer28 rfl rfl rfl rfl rfl rfl) ?_
    refine scons (r_storeS rfl wDia6_siz28 rfl rfl rfl (Sees.of rfl) rfl (Sees.of rfl) rfl rfl rfl rfl) ?_
    refine snil ?_
    refine f_seq ?_
    refine f_seq ?_
    refine f_region ?_
    refine scons (CStep.step (PStep.c (p_fieldRef rfl wDia6_fld28_0 wDia6_siz3 rfl (Sees.of rfl) rfl)) rfl rfl rfl rfl) ?_
    refine scons (CStep.step (PStep.c (p_loadB (y := .val _) rfl wDia6_agg3 (Sees.of rfl) rfl rfl rfl rfl)) rfl rfl rfl rfl) ?_
    refine scons (CStep.step (PStep.c (p_eql rfl (Sees.of rfl) (Sees.of rfl))) rfl rfl rfl rfl) ?_
    refine scons (CStep.step (PStep.c (p_move (y := .val _) rfl (Sees.of rfl) rfl)) rfl rfl rfl rfl) ?_
    refine scons (CStep.guard rfl rfl rfl (fun hg0 => PStep.c (p_move (y := .val _) rfl (Sees.of rfl) rfl)) rfl rfl rfl rfl rfl) ?_
    refine scons (CStep.guard rfl rfl rfl (fun hg0 => PStep.c (p_lss rfl (Sees.gv' rfl hg0) (Sees.of rfl))) rfl rfl rfl rfl rfl) ?_
    refine scons (CStep.guard rfl rfl rfl (fun hg0 => PStep.c (p_move (y := .val _) rfl (Sees.gv' rfl hg0) rfl)) rfl rfl rfl rfl rfl) ?_
    refine scons (CStep.guard2 rfl rfl rfl (fun hg1 hg0 => PStep.c (p_move (y := .val _) rfl (Sees.of rfl) rfl)) rfl rfl rfl rfl rfl) ?_
    refine scons (CStep.guard2 rfl rfl rfl (fun hg1 hg0 => PStep.c (p_gtr rfl (Sees.gv' rfl (and_true_of hg1 hg0)) (Sees.of rfl))) rfl rfl rfl rfl rfl) ?_
    refine scons (CStep.guard rfl rfl rfl (fun hg0 => PStep.c (p_or rfl (Sees.gv' rfl hg0) (Sees.of rfl) (fun h => Sees.gv' rfl (and_true_of hg0 (beq_of_eq h))))) rfl rfl rfl rfl rfl) ?_
    refine scons (CStep.step (PStep.c (p_and rfl (Sees.of rfl) (fun h => Sees.gv' rfl (beq_of_eq h)) (Sees.of rfl))) rfl rfl rfl rfl) ?_
    refine snil ?_
    refine f_cond rfl ?_ ?_
    · intro hc2
      try simp only [bs] at hc2
      refine f_region ?_
      refine scons (CStep.step (PStep.c (p_build rfl wDia6_plc28 wDia6_zer28 (by decide) wDia6_zch28 ⟨_, _, _, rfl, rfl, rfl, (Sees.of rfl), ⟨_, _, _, rfl, rfl, rfl, (Sees.of rfl), rfl⟩⟩ rfl)) rfl rfl rfl rfl) ?_
      refine scons (r_storeS rfl wDia6_siz28 rfl rfl rfl (Sees.of rfl) rfl (Sees.of rfl) rfl rfl rfl rfl) ?_
      refine snil ?_
      refine f_seq ?_
      refine f_seq ?_
      refine f_region ?_
      refine scons (CStep.step (PStep.c (p_fieldRef rfl wDia6_fld28_0 wDia6_siz3 rfl (Sees.of rfl) rfl)) rfl rfl rfl rfl) ?_
      refine scons (CStep.step (PStep.c (p_loadB (y := .val _) rfl wDia6_agg3 (Sees.of rfl) rfl rfl rfl rfl)) rfl rfl rfl rfl) ?_
      refine scons (CStep.step (PStep.c (p_neq rfl (Sees.of rfl) (Sees.of rfl))) rfl rfl rfl rfl) ?_
      refine snil ?_
      refine f_cond rfl ?_ ?_
      · intro hc3
        try simp only [bs] at hc3
        refine f_seq ?_
        refine f_region ?_
        refine scons (CStep.step (PStep.c (p_loadBS rfl wDia6_agg28 wDia6_siz28 (Sees.of rfl) rfl rfl rfl)) rfl rfl rfl rfl) ?_
        refine scons (CStep.step (PStep.c (p_loadBS rfl wDia6_agg28 wDia6_siz28 (Sees.of rfl) rfl rfl rfl)) rfl rfl rfl rfl) ?_
        refine scons (CStep.step (PStep.c (p_eqlS2 rfl wDia6_eq228 (Sees.of rfl) (Sees.of rfl))) rfl rfl rfl rfl) ?_
        refine scons (CStep.step (PStep.c (p_move (y := .val _) rfl (Sees.of rfl) rfl)) rfl rfl rfl rfl) ?_
        refine scons (CStep.guard rfl rfl rfl (fun hg0 => PStep.c (p_loadBS rfl wDia6_agg41 wDia6_siz41 (Sees.of rfl) rfl rfl rfl)) rfl rfl rfl rfl rfl) ?_
        refine scons (CStep.guard rfl rfl rfl (fun hg0 => c_call rfl wDia6_isf23 ⟨_, _, rfl, (Sees.gv' rfl hg0), rfl, rfl⟩ (DiaNone_spec _ _)) rfl rfl rfl rfl rfl) ?_
        refine scons (CStep.step (PStep.c (p_and rfl (Sees.of rfl) (fun h => Sees.gv' rfl (beq_of_eq h)) (Sees.of rfl))) rfl rfl rfl rfl) ?_
        refine scons (CStep.step (PStep.c (p_assign (y := .val _) rfl (Sees.of rfl) rfl)) rfl rfl rfl rfl) ?_
        refine snil ?_
        refine f_ret ?_
        refine ends_ret (res_eq (res1 rfl (res_tmp rfl (Sees.of rfl))) ?_)
        rw [show Sp.diaBoth n op l r l' r' = ([], 0, 3, -1) by rw [Sp.diaBoth, if_neg (fun h => h (Sp.both_ok hc2.1).1), if_neg (fun h => h (Sp.both_ok hc2.1).2), if_pos (by omega)]]
        rfl
      · intro hc3
        try simp only [bs] at hc3
        exact absurd hc3 (by decide)
    · intro hc2
      try simp only [bs] at hc2
      refine f_skip ?_
      refine f_seq ?_
      refine f_seq ?_
      refine f_region ?_
      refine scons (CStep.step (PStep.c (p_fieldRef rfl wDia6_fld28_0 wDia6_siz3 rfl (Sees.of rfl) rfl)) rfl rfl rfl rfl) ?_
      refine scons (CStep.step (PStep.c (p_loadB (y := .val _) rfl wDia6_agg3 (Sees.of rfl) rfl rfl rfl rfl)) rfl rfl rfl rfl) ?_
      refine scons (CStep.step (PStep.c (p_neq rfl (Sees.of rfl) (Sees.of rfl))) rfl rfl rfl rfl) ?_
      refine snil ?_
      refine f_cond rfl ?_ ?_
      · intro hc4
        try simp only [bs] at hc4
        refine f_seq ?_
        refine f_region ?_
        refine scons (CStep.step (PStep.c (p_loadBS rfl wDia6_agg28 wDia6_siz28 (Sees.of rfl) rfl rfl rfl)) rfl rfl rfl rfl) ?_
        refine scons (CStep.step (PStep.c (p_loadBS rfl wDia6_agg28 wDia6_siz28 (Sees.of rfl) rfl rfl rfl)) rfl rfl rfl rfl) ?_
        refine scons (CStep.step (PStep.c (p_eqlS2 rfl wDia6_eq228 (Sees.of rfl) (Sees.of rfl))) rfl rfl rfl rfl) ?_
        refine scons (CStep.step (PStep.c (p_move (y := .val _) rfl (Sees.of rfl) rfl)) rfl rfl rfl rfl) ?_
        refine scons (CStep.guard rfl rfl rfl (fun hg0 => PStep.c (p_loadBS rfl wDia6_agg41 wDia6_siz41 (Sees.of rfl) rfl rfl rfl)) rfl rfl rfl rfl rfl) ?_
        refine scons (CStep.guard rfl rfl rfl (fun hg0 => c_call rfl wDia6_isf23 ⟨_, _, rfl, (Sees.gv' rfl hg0), rfl, rfl⟩ (DiaNone_spec _ _)) rfl rfl rfl rfl rfl) ?_
        refine scons (CStep.step (PStep.c (p_and rfl (Sees.of rfl) (fun h => Sees.gv' rfl (beq_of_eq h)) (Sees.of rfl))) rfl rfl rfl rfl) ?_
        refine scons (CStep.step (PStep.c (p_assign (y := .val _) rfl (Sees.of rfl) rfl)) rfl rfl rfl rfl) ?_
        refine snil ?_
        refine f_ret ?_
        refine ends_ret (res_eq (res1 rfl (res_tmp rfl (Sees.of rfl))) ?_)
        rw [Sp.both_bad hc4]
        simp
      · intro hc4
        try simp only [bs] at hc4
        have hq := Sp.both_ok hc4
        obtain ⟨m, rfl⟩ : ∃ m : Nat, n = (m : Int) := ⟨n.toNat, by have := Sp.dia_ok hq.1; omega⟩
        have hok := Sp.dia_ok hq.1
        have hp16 := Sp.pow16 (n := m) (by omega)
        have hm8 : m ≤ 8 := by omega
        refine f_skip ?_
        refine f_seq ?_
        refine f_region ?_
        refine scons (CStep.step (PStep.c (p_move (y := .val _) rfl (Sees.of rfl) rfl)) rfl rfl rfl rfl) ?_
        refine scons (CStep.step (PStep.c (p_loadBS rfl wDia6_agg41 wDia6_siz41 (Sees.of rfl) rfl rfl rfl)) rfl rfl rfl rfl) ?_
        refine scons (r_callS (q := false) (ob := 10060) false rfl wDia6_isf36 (tableR_spec m l r hq.1) (sa_cons (sh_of (Sees.of rfl) rfl) (sa_cons (sh_of (Sees.of rfl) rfl) (sa_nil))) (.inl rfl) rfl rfl rfl rfl rfl) ?_
        refine scons (CStep.step (PStep.c (p_assign (y := .row _ _) rfl (Sees.of rfl) rfl)) rfl rfl rfl rfl) ?_
        refine snil ?_
        refine f_seq ?_
        refine f_region ?_
        refine scons (CStep.step (PStep.c (p_move (y := .val _) rfl (Sees.of rfl) rfl)) rfl rfl rfl rfl) ?_
        refine scons (CStep.step (PStep.c (p_loadBS rfl wDia6_agg41 wDia6_siz41 (Sees.of rfl) rfl rfl rfl)) rfl rfl rfl rfl) ?_
        refine scons (CStep.step (c_call rfl wDia6_isf36 ⟨_, _, rfl, (Sees.of rfl), rfl, ⟨_, _, rfl, (Sees.of rfl), rfl, rfl⟩⟩ ((tableR_spec m l' r' hq.2).spec false)) rfl rfl rfl rfl) ?_
        refine scons (CStep.step (PStep.c (p_assign (y := .val _) rfl (Sees.of rfl) rfl)) rfl rfl rfl rfl) ?_
        refine snil ?_
        refine f_seq ?_
        refine f_seq ?_
        refine f_region ?_
        refine scons (CStep.step (PStep.c (p_assign (y := .val _) rfl (Sees.of rfl) rfl)) rfl rfl rfl rfl) ?_
        refine snil ?_
        refine f_block ?_
        refine f_loop (α := Nat) (fun i => i ≤ 2 ^ m) (fun i => [(14, iv i), (12, .row 10060 0), (10060, .arr 0 4 1 1 D.bool false (Sp.fillTo (2 ^ m) (fun k : Nat => Sp.dvalue l r (Sp.bits m k)) (fun k : Nat => Sp.comb op (Sp.dvalue l r (Sp.bits m k)) (Sp.dvalue l' r' (Sp.bits m k))) i)), (13, .val (bools (Sp.dtab (Sp.dvalue l' r') m))), (9, .ref 10009 0 0), (10009, .box 0 (.ccons (.val (chos (Sp.diaBoth m op l r l' r').1)) (.ccons (iv (Sp.diaBoth m op l r l' r').2.1) .cnil))), (10, .ref 10010 0 0), (10010, .box 0 (.ccons (iv (Sp.diaBoth m op l r l' r').2.2.1) (.ccons (iv (Sp.diaBoth m op l r l' r').2.2.2) .cnil))), (11, .ref 10011 0 0), (10011, .box 0 (.ccons (iv (Sp.bothWrong m l r l' r').1) (.ccons (iv (Sp.bothWrong m l r l' r').2) .cnil))), (1, iv op), (8, bv false)]) (fun i => 2 ^ m - i) 0 ?_ ?_ ?_
        · exact Nat.zero_le _
        · exact le_ofL ⟨rfl, rfl, (by rw [Sp.fill_zero]; rfl), rfl, rfl, rfl, rfl, rfl, rfl, rfl, rfl, rfl, trivial⟩ rfl
        · rintro i hi
          have hi : i ≤ 2 ^ m := hi
          have hfl := Sp.fill_len (2 ^ m) (fun k : Nat => Sp.dvalue l r (Sp.bits m k)) (fun k : Nat => Sp.comb op (Sp.dvalue l r (Sp.bits m k)) (Sp.dvalue l' r' (Sp.bits m k))) i
          have hql := Sp.dtab_len (Sp.dvalue l' r') m
          refine f_seq ?_
          refine f_seq ?_
          refine f_region ?_
          refine scons (CStep.step (PStep.c (p_move (y := .val _) rfl (Sees.of rfl) rfl)) rfl rfl rfl rfl) ?_
          refine scons (CStep.step (PStep.c (p_move (y := .row _ _) rfl (Sees.of rfl) rfl)) rfl rfl rfl rfl) ?_
          refine scons (CStep.step (PStep.c (p_lenR rfl wDia6_isl45 (Sees.of rfl) rfl)) rfl rfl rfl rfl) ?_
          refine scons (CStep.step (PStep.c (p_lss rfl (Sees.of rfl) (Sees.of rfl))) rfl rfl rfl rfl) ?_
          refine snil ?_
          refine f_cond rfl ?_ ?_
          · intro hc5
            try simp only [bs] at hc5
            refine f_skip ?_
            refine f_seq ?_
            refine f_block ?_
            refine f_seq ?_
            refine f_region ?_
            refine scons (CStep.step (PStep.c (p_assign (y := .val _) rfl (Sees.of rfl) rfl)) rfl rfl rfl rfl) ?_
            refine snil ?_
            refine f_seq ?_
            refine f_seq ?_
            refine f_region ?_
            refine scons (CStep.step (PStep.c (p_move (y := .row _ _) rfl (Sees.of rfl) rfl)) rfl rfl rfl rfl) ?_
            refine scons (CStep.step (PStep.c (p_move (y := .val _) rfl (Sees.of rfl) rfl)) rfl rfl rfl rfl) ?_
            refine scons (CStep.step (PStep.c ((by first | exact p_indexR rfl wDia6_isl45 wDia6_siz4 (Sees.of rfl) rfl (Sees.of rfl) (by rw [hfl]; omega) | exact p_indexRZ rfl wDia6_isl45 wDia6_siz4 (Sees.of rfl) rfl (Sees.of rfl) (by omega) (by rw [hfl]; omega)))) rfl rfl rfl rfl) ?_
            refine scons (CStep.step (PStep.c (p_loadE rfl wDia6_agg4 (Sees.of rfl) rfl (by rw [hfl]; omega) (fun _ => rfl))) rfl rfl rfl rfl) ?_
            refine snil ?_
            refine f_cond rfl ?_ ?_
            · intro hc6
              try simp only [bs] at hc6
              refine f_region ?_
              refine scons (CStep.step (PStep.c (p_assign (y := .val _) rfl (Sees.of rfl) rfl)) rfl rfl rfl rfl) ?_
              refine snil ?_
              refine f_seq ?_
              refine f_seq ?_
              refine f_region ?_
              refine scons (CStep.step (PStep.c (p_move (y := .val _) rfl (Sees.of rfl) rfl)) rfl rfl rfl rfl) ?_
              refine scons (CStep.step (PStep.c (p_move (y := .val _) rfl (Sees.of rfl) rfl)) rfl rfl rfl rfl) ?_
              refine scons (CStep.step (PStep.c ((by first | exact p_indexN rfl wDia6_isl45 wDia6_siz4 (Sees.of rfl) (Sees.of rfl) (by omega) | exact p_index rfl wDia6_isl45 wDia6_siz4 (Sees.of rfl) (Sees.of rfl) (by omega) (by omega)))) rfl rfl rfl rfl) ?_
              refine scons (CStep.step (PStep.c (p_load rfl wDia6_agg4 (Sees.of rfl) rfl)) rfl rfl rfl rfl) ?_
              refine snil ?_
              refine f_cond rfl ?_ ?_
              · intro hc7
                try simp only [bs] at hc7
                refine f_region ?_
                refine scons (CStep.step (PStep.c (p_move (y := .val _) rfl (Sees.of rfl) rfl)) rfl rfl rfl rfl) ?_
                refine scons (CStep.step (PStep.c (p_add rfl (Sees.of rfl) (Sees.of rfl) (by omega))) rfl rfl rfl rfl) ?_
                refine scons (CStep.step (PStep.c (p_assign (y := .val _) rfl (Sees.of rfl) rfl)) rfl rfl rfl rfl) ?_
                refine snil ?_
                refine f_region ?_
                refine scons (CStep.step (PStep.c (p_move (y := .row _ _) rfl (Sees.of rfl) rfl)) rfl rfl rfl rfl) ?_
                refine scons (CStep.step (PStep.c (p_move (y := .val _) rfl (Sees.of rfl) rfl)) rfl rfl rfl rfl) ?_
                refine scons (CStep.step (PStep.c (p_move (y := .val _) rfl (Sees.of rfl) rfl)) rfl rfl rfl rfl) ?_
                refine scons (CStep.step (PStep.c (p_move (y := .val _) rfl (Sees.of rfl) rfl)) rfl rfl rfl rfl) ?_
                refine scons (CStep.step (PStep.c (p_convU rfl wDia6_int3 wDia6_int46 (Sees.of rfl) (by omega))) rfl rfl rfl rfl) ?_
                refine scons (CStep.step (PStep.c (p_shr rfl (Sees.of rfl) (Sees.of rfl) (by omega) (by omega))) rfl rfl rfl rfl) ?_
                refine scons (CStep.step (PStep.c (p_and1 rfl (Sees.of rfl) (Sees.of rfl))) rfl rfl rfl rfl) ?_
                refine scons (CStep.step (PStep.c (p_eql rfl (Sees.of rfl) (Sees.of rfl))) rfl rfl rfl rfl) ?_
                refine scons (CStep.step (PStep.c ((by first | exact p_indexR rfl wDia6_isl45 wDia6_siz4 (Sees.of rfl) rfl (Sees.of rfl) (by rw [hfl]; omega) | exact p_indexRZ rfl wDia6_isl45 wDia6_siz4 (Sees.of rfl) rfl (Sees.of rfl) (by omega) (by rw [hfl]; omega)))) rfl rfl rfl rfl) ?_
                refine scons (r_storeE rfl wDia6_siz4 rfl rfl rfl (Sees.of rfl) rfl (by rw [hfl]; omega) (Sees.of rfl) rfl) ?_
                refine snil ?_
                refine f_nil ?_
                show AWs _ _ _ _ _
                refine f_region ?_
                refine scons (CStep.step (PStep.c (p_move (y := .val _) rfl (Sees.of rfl) rfl)) rfl rfl rfl rfl) ?_
                refine scons (CStep.step (PStep.c (p_add rfl (Sees.of rfl) (Sees.of rfl) (by omega))) rfl rfl rfl rfl) ?_
                refine scons (CStep.step (PStep.c (p_assign (y := .val _) rfl (Sees.of rfl) rfl)) rfl rfl rfl rfl) ?_
                refine snil ?_
                have hx := hc6
                rw [Sp.fill_get _ _ _ _ (by omega), if_neg (Nat.lt_irrefl _)] at hx
                have hy := hc7
                rw [Sp.dtab_at _ _ _ (by omega)] at hy
                refine f_back ⟨i + 1, ?_, ?_, le_ofL ⟨rfl, rfl, (by rw [← Sp.fill_to (x := Sp.comb op true true) (by omega) (by show Sp.comb op _ _ = _; rw [hx, hy])]; rfl), rfl, rfl, rfl, rfl, rfl, rfl, rfl, rfl, rfl, trivial⟩ rfl⟩
                · omega
                · omega
              · intro hc7
                try simp only [bs] at hc7
                refine f_skip ?_
                refine f_region ?_
                refine scons (CStep.step (PStep.c (p_move (y := .row _ _) rfl (Sees.of rfl) rfl)) rfl rfl rfl rfl) ?_
                refine scons (CStep.step (PStep.c (p_move (y := .val _) rfl (Sees.of rfl) rfl)) rfl rfl rfl rfl) ?_
                refine scons (CStep.step (PStep.c (p_move (y := .val _) rfl (Sees.of rfl) rfl)) rfl rfl rfl rfl) ?_
                refine scons (CStep.step (PStep.c (p_move (y := .val _) rfl (Sees.of rfl) rfl)) rfl rfl rfl rfl) ?_
                refine scons (CStep.step (PStep.c (p_convU rfl wDia6_int3 wDia6_int46 (Sees.of rfl) (by omega))) rfl rfl rfl rfl) ?_
                refine scons (CStep.step (PStep.c (p_shr rfl (Sees.of rfl) (Sees.of rfl) (by omega) (by omega))) rfl rfl rfl rfl) ?_
                refine scons (CStep.step (PStep.c (p_and1 rfl (Sees.of rfl) (Sees.of rfl))) rfl rfl rfl rfl) ?_
                refine scons (CStep.step (PStep.c (p_eql rfl (Sees.of rfl) (Sees.of rfl))) rfl rfl rfl rfl) ?_
                refine scons (CStep.step (PStep.c ((by first | exact p_indexR rfl wDia6_isl45 wDia6_siz4 (Sees.of rfl) rfl (Sees.of rfl) (by rw [hfl]; omega) | exact p_indexRZ rfl wDia6_isl45 wDia6_siz4 (Sees.of rfl) rfl (Sees.of rfl) (by omega) (by rw [hfl]; omega)))) rfl rfl rfl rfl) ?_
                refine scons (r_storeE rfl wDia6_siz4 rfl rfl rfl (Sees.of rfl) rfl (by rw [hfl]; omega) (Sees.of rfl) rfl) ?_
                refine snil ?_
                refine f_nil ?_
                show AWs _ _ _ _ _
                refine f_region ?_
                refine scons (CStep.step (PStep.c (p_move (y := .val _) rfl (Sees.of rfl) rfl)) rfl rfl rfl rfl) ?_
                refine scons (CStep.step (PStep.c (p_add rfl (Sees.of rfl) (Sees.of rfl) (by omega))) rfl rfl rfl rfl) ?_
                refine scons (CStep.step (PStep.c (p_assign (y := .val _) rfl (Sees.of rfl) rfl)) rfl rfl rfl rfl) ?_
                refine snil ?_
                have hx := hc6
                rw [Sp.fill_get _ _ _ _ (by omega), if_neg (Nat.lt_irrefl _)] at hx
                have hy := hc7
                rw [Sp.dtab_at _ _ _ (by omega)] at hy
                refine f_back ⟨i + 1, ?_, ?_, le_ofL ⟨rfl, rfl, (by rw [← Sp.fill_to (x := Sp.comb op true false) (by omega) (by show Sp.comb op _ _ = _; rw [hx, hy])]; rfl), rfl, rfl, rfl, rfl, rfl, rfl, rfl, rfl, rfl, trivial⟩ rfl⟩
                · omega
                · omega
            · intro hc6
              try simp only [bs] at hc6
              refine f_skip ?_
              refine f_seq ?_
              refine f_seq ?_
              refine f_region ?_
              refine scons (CStep.step (PStep.c (p_move (y := .val _) rfl (Sees.of rfl) rfl)) rfl rfl rfl rfl) ?_
              refine scons (CStep.step (PStep.c (p_move (y := .val _) rfl (Sees.of rfl) rfl)) rfl rfl rfl rfl) ?_
              refine scons (CStep.step (PStep.c ((by first | exact p_indexN rfl wDia6_isl45 wDia6_siz4 (Sees.of rfl) (Sees.of rfl) (by omega) | exact p_index rfl wDia6_isl45 wDia6_siz4 (Sees.of rfl) (Sees.of rfl) (by omega) (by omega)))) rfl rfl rfl rfl) ?_
              refine scons (CStep.step (PStep.c (p_load rfl wDia6_agg4 (Sees.of rfl) rfl)) rfl rfl rfl rfl) ?_
              refine snil ?_
              refine f_cond rfl ?_ ?_
              · intro hc8
                try simp only [bs] at hc8
                refine f_region ?_
                refine scons (CStep.step (PStep.c (p_move (y := .val _) rfl (Sees.of rfl) rfl)) rfl rfl rfl rfl) ?_
                refine scons (CStep.step (PStep.c (p_add rfl (Sees.of rfl) (Sees.of rfl) (by omega))) rfl rfl rfl rfl) ?_
                refine scons (CStep.step (PStep.c (p_assign (y := .val _) rfl (Sees.of rfl) rfl)) rfl rfl rfl rfl) ?_
                refine snil ?_
                refine f_region ?_
                refine scons (CStep.step (PStep.c (p_move (y := .row _ _) rfl (Sees.of rfl) rfl)) rfl rfl rfl rfl) ?_
                refine scons (CStep.step (PStep.c (p_move (y := .val _) rfl (Sees.of rfl) rfl)) rfl rfl rfl rfl) ?_
                refine scons (CStep.step (PStep.c (p_move (y := .val _) rfl (Sees.of rfl) rfl)) rfl rfl rfl rfl) ?_
                refine scons (CStep.step (PStep.c (p_move (y := .val _) rfl (Sees.of rfl) rfl)) rfl rfl rfl rfl) ?_
                refine scons (CStep.step (PStep.c (p_convU rfl wDia6_int3 wDia6_int46 (Sees.of rfl) (by omega))) rfl rfl rfl rfl) ?_
                refine scons (CStep.step (PStep.c (p_shr rfl (Sees.of rfl) (Sees.of rfl) (by omega) (by omega))) rfl rfl rfl rfl) ?_
                refine scons (CStep.step (PStep.c (p_and1 rfl (Sees.of rfl) (Sees.of rfl))) rfl rfl rfl rfl) ?_
                refine scons (CStep.step (PStep.c (p_eql rfl (Sees.of rfl) (Sees.of rfl))) rfl rfl rfl rfl) ?_
                refine scons (CStep.step (PStep.c ((by first | exact p_indexR rfl wDia6_isl45 wDia6_siz4 (Sees.of rfl) rfl (Sees.of rfl) (by rw [hfl]; omega) | exact p_indexRZ rfl wDia6_isl45 wDia6_siz4 (Sees.of rfl) rfl (Sees.of rfl) (by omega) (by rw [hfl]; omega)))) rfl rfl rfl rfl) ?_
                refine scons (r_storeE rfl wDia6_siz4 rfl rfl rfl (Sees.of rfl) rfl (by rw [hfl]; omega) (Sees.of rfl) rfl) ?_
                refine snil ?_
                refine f_nil ?_
                show AWs _ _ _ _ _
                refine f_region ?_
                refine scons (CStep.step (PStep.c (p_move (y := .val _) rfl (Sees.of rfl) rfl)) rfl rfl rfl rfl) ?_
                refine scons (CStep.step (PStep.c (p_add rfl (Sees.of rfl) (Sees.of rfl) (by omega))) rfl rfl rfl rfl) ?_
                refine scons (CStep.step (PStep.c (p_assign (y := .val _) rfl (Sees.of rfl) rfl)) rfl rfl rfl rfl) ?_
                refine snil ?_
                have hx := hc6
                rw [Sp.fill_get _ _ _ _ (by omega), if_neg (Nat.lt_irrefl _)] at hx
                have hy := hc8
                rw [Sp.dtab_at _ _ _ (by omega)] at hy
                refine f_back ⟨i + 1, ?_, ?_, le_ofL ⟨rfl, rfl, (by rw [← Sp.fill_to (x := Sp.comb op false true) (by omega) (by show Sp.comb op _ _ = _; rw [hx, hy])]; rfl), rfl, rfl, rfl, rfl, rfl, rfl, rfl, rfl, rfl, trivial⟩ rfl⟩
                · omega
                · omega
              · intro hc8
                try simp only [bs] at hc8
                refine f_skip ?_
                refine f_region ?_
                refine scons (CStep.step (PStep.c (p_move (y := .row _ _) rfl (Sees.of rfl) rfl)) rfl rfl rfl rfl) ?_
                refine scons (CStep.step (PStep.c (p_move (y := .val _) rfl (Sees.of rfl) rfl)) rfl rfl rfl rfl) ?_
                refine scons (CStep.step (PStep.c (p_move (y := .val _) rfl (Sees.of rfl) rfl)) rfl rfl rfl rfl) ?_
                refine scons (CStep.step (PStep.c (p_move (y := .val _) rfl (Sees.of rfl) rfl)) rfl rfl rfl rfl) ?_
                refine scons (CStep.step (PStep.c (p_convU rfl wDia6_int3 wDia6_int46 (Sees.of rfl) (by omega))) rfl rfl rfl rfl) ?_
                refine scons (CStep.step (PStep.c (p_shr rfl (Sees.of rfl) (Sees.of rfl) (by omega) (by omega))) rfl rfl rfl rfl) ?_
                refine scons (CStep.step (PStep.c (p_and1 rfl (Sees.of rfl) (Sees.of rfl))) rfl rfl rfl rfl) ?_
                refine scons (CStep.step (PStep.c (p_eql rfl (Sees.of rfl) (Sees.of rfl))) rfl rfl rfl rfl) ?_
                refine scons (CStep.step (PStep.c ((by first | exact p_indexR rfl wDia6_isl45 wDia6_siz4 (Sees.of rfl) rfl (Sees.of rfl) (by rw [hfl]; omega) | exact p_indexRZ rfl wDia6_isl45 wDia6_siz4 (Sees.of rfl) rfl (Sees.of rfl) (by omega) (by rw [hfl]; omega)))) rfl rfl rfl rfl) ?_
                refine scons (r_storeE rfl wDia6_siz4 rfl rfl rfl (Sees.of rfl) rfl (by rw [hfl]; omega) (Sees.of rfl) rfl) ?_
                refine snil ?_
                refine f_nil ?_
                show AWs _ _ _ _ _
                refine f_region ?_
                refine scons (CStep.step (PStep.c (p_move (y := .val _) rfl (Sees.of rfl) rfl)) rfl rfl rfl rfl) ?_
                refine scons (CStep.step (PStep.c (p_add rfl (Sees.of rfl) (Sees.of rfl) (by omega))) rfl rfl rfl rfl) ?_
                refine scons (CStep.step (PStep.c (p_assign (y := .val _) rfl (Sees.of rfl) rfl)) rfl rfl rfl rfl) ?_
                refine snil ?_
                have hx := hc6
                rw [Sp.fill_get _ _ _ _ (by omega), if_neg (Nat.lt_irrefl _)] at hx
                have hy := hc8
                rw [Sp.dtab_at _ _ _ (by omega)] at hy
                refine f_back ⟨i + 1, ?_, ?_, le_ofL ⟨rfl, rfl, (by rw [← Sp.fill_to (x := Sp.comb op false false) (by omega) (by show Sp.comb op _ _ = _; rw [hx, hy])]; rfl), rfl, rfl, rfl, rfl, rfl, rfl, rfl, rfl, rfl, trivial⟩ rfl⟩
                · omega
                · omega
          · intro hc5
            try simp only [bs] at hc5
            refine f_exit ?_
            show AWs _ _ _ _ _
            refine f_seq ?_
            refine f_le (GLe.le (g_freeze (k := 12) (o1 := 10060) rfl rfl rfl rfl)) ?_ (by simp)
            refine f_draw wDia6_mix (by kernel_rfl) ?_
            refine dcons (CStep.step (PStep.c (p_loadBS rfl wDia6_agg28 wDia6_siz28 (Sees.of rfl) rfl rfl rfl)) rfl rfl rfl rfl) ?_
            refine dcons (CStep.step (PStep.c (p_loadBS rfl wDia6_agg28 wDia6_siz28 (Sees.of rfl) rfl rfl rfl)) rfl rfl rfl rfl) ?_
            refine dcons (CStep.step (PStep.c (p_eqlS2 rfl wDia6_eq228 (Sees.of rfl) (Sees.of rfl))) rfl rfl rfl rfl) ?_
            refine dcons (CStep.step (PStep.c (p_move (y := .val _) rfl (Sees.of rfl) rfl)) rfl rfl rfl rfl) ?_
            refine dcons (CStep.guard rfl rfl rfl (fun hg0 => PStep.c (p_loadBS rfl wDia6_agg41 wDia6_siz41 (Sees.of rfl) rfl rfl rfl)) rfl rfl rfl rfl rfl) ?_
            refine dcons (CStep.guard rfl rfl rfl (fun hg0 => PStep.c (p_move (y := .val _) rfl (Sees.of rfl) rfl)) rfl rfl rfl rfl rfl) ?_
            refine dcons (CStep.guard rfl rfl rfl (fun hg0 => by have hp0 := hg0; (try simp only [bs] at hp0); exact c_call rfl wDia6_isf27 ⟨_, _, rfl, (Sees.gv' rfl hg0), rfl, rfl⟩ (DiaOf_spec m (Sp.fillTo (2 ^ m) (fun k : Nat => Sp.dvalue l r (Sp.bits m k)) (fun k : Nat => Sp.comb op (Sp.dvalue l r (Sp.bits m k)) (Sp.dvalue l' r' (Sp.bits m k))) i) (by omega) (Sp.fill_len _ _ _ _))) rfl rfl rfl rfl rfl) ?_
            refine dcons (CStep.guard rfl rfl rfl (fun hg0 => c_call rfl wDia6_isf26 ⟨_, _, rfl, (Sees.gv' rfl hg0), rfl, ⟨_, _, rfl, (Sees.gv' rfl hg0), rfl, rfl⟩⟩ (DiaSame_spec _ _ _ _)) rfl rfl rfl rfl rfl) ?_
            refine dcons (CStep.step (PStep.c (p_and rfl (Sees.of rfl) (fun h => Sees.gv' rfl (beq_of_eq h)) (Sees.of rfl))) rfl rfl rfl rfl) ?_
            refine dcons (CStep.step (PStep.c (p_move (y := .val _) rfl (Sees.of rfl) rfl)) rfl rfl rfl rfl) ?_
            refine dcons (CStep.guard rfl rfl rfl (fun hg0 => c_call rfl wDia6_isf28 rfl (diaSure_spec)) rfl rfl rfl rfl rfl) ?_
            refine dcons (CStep.step (PStep.c (p_and rfl (Sees.of rfl) (fun h => Sees.gv' rfl (beq_of_eq h)) (Sees.of rfl))) rfl rfl rfl rfl) ?_
            refine dcons (CStep.step (PStep.c (p_assign (y := .val _) rfl (Sees.of rfl) rfl)) rfl rfl rfl rfl) ?_
            refine dnil (by kernel_rfl) ?_
            refine f_ret ?_
            refine ends_ret (res_eq (res1 rfl (res_tmp rfl (Sees.of rfl))) ?_)
            have e : Sp.diaBoth m op l r l' r' = ((Sp.grow m [] (Sp.dtab (fun a => Sp.comb op (Sp.dvalue l r a) (Sp.dvalue l' r' a)) m) 1).1, (Sp.grow m [] (Sp.dtab (fun a => Sp.comb op (Sp.dvalue l r a) (Sp.dvalue l' r' a)) m) 1).2, 0, 0) := by rw [Sp.diaBoth, if_neg (fun h => h hq.1), if_neg (fun h => h hq.2), if_neg (by omega), Int.toNat_natCast, Sp.built_few hm8]
            have e2 := Sp.both_zero hc4
            have e3 : Sp.fillTo (2 ^ m) (fun k : Nat => Sp.dvalue l r (Sp.bits m k)) (fun k : Nat => Sp.comb op (Sp.dvalue l r (Sp.bits m k)) (Sp.dvalue l' r' (Sp.bits m k))) i = Sp.dtab (fun a => Sp.comb op (Sp.dvalue l r a) (Sp.dvalue l' r' a)) m := Sp.fill_end _ _ (by omega)
            rw [e, e2, e3]
            simp

theorem DiaSomes_spec (n : Int) (l : List Sp.Cho) (r v : Int) (hv : -9223372036854775808 ≤ v) :
    Spec Go.Proofs.Try.prog 9 [iv n, .val (dia l r), iv v] (D.bool true) := by
  refine spec_of' Go.Proofs.Try.func9 rfl Go.Proofs.Try.ntmps9 rfl ?_
  refine f_seq ?_
  refine f_region ?_
  refine scons (r_box (ob := 10004) rfl (Sees.of rfl) rfl rfl rfl rfl rfl rfl) ?_
  refine scons (CStep.step (PStep.c (p_assign (y := .val _) rfl (Sees.of rfl) rfl)) rfl rfl rfl rfl) ?_
  refine snil ?_
  refine f_seq ?_
  refine f_seq ?_
  refine f_region ?_
  refine scons (CStep.step (PStep.c (p_move (y := .val _) rfl (Sees.of rfl) rfl)) rfl rfl rfl rfl) ?_
  refine scons (CStep.step (PStep.c (p_loadBS rfl wDia6_agg41 wDia6_siz41 (Sees.of rfl) rfl rfl rfl)) rfl rfl rfl rfl) ?_
  refine scons (CStep.step (c_call rfl wDia6_isf34 ⟨_, _, rfl, (Sees.of rfl), rfl, ⟨_, _, rfl, (Sees.of rfl), rfl, rfl⟩⟩ (large_spec n l r)) rfl rfl rfl rfl) ?_
  refine snil ?_
  refine f_cond rfl ?_ ?_
  · intro hc1
    try simp only [bs] at hc1
    refine f_seq ?_
    refine f_region ?_
    refine scons (CStep.step (PStep.c (p_assign (y := .val _) rfl (Sees.of rfl) rfl)) rfl rfl rfl rfl) ?_
    refine snil ?_
    refine f_ret ?_
    refine ends_ret (res_eq (res1 rfl (res_tmp rfl (Sees.of rfl))) ?_)
    rfl
  · intro hc1
    try simp only [bs] at hc1
    refine f_skip ?_
    refine f_seq ?_
    refine f_region ?_
    refine scons (CStep.step (PStep.c (p_move (y := .val _) rfl (Sees.of rfl) rfl)) rfl rfl rfl rfl) ?_
    refine scons (CStep.step (PStep.c (p_loadBS rfl wDia6_agg41 wDia6_siz41 (Sees.of rfl) rfl rfl rfl)) rfl rfl rfl rfl) ?_
    refine scons (CStep.step (PStep.c (p_move (y := .val _) rfl (Sees.of rfl) rfl)) rfl rfl rfl rfl) ?_
    refine scons (CStep.step (c_call rfl wDia6_isf37 ⟨_, _, rfl, (Sees.of rfl), rfl, ⟨_, _, rfl, (Sees.of rfl), rfl, ⟨_, _, rfl, (Sees.of rfl), rfl, rfl⟩⟩⟩ (Some_spec n l r v)) rfl rfl rfl rfl) ?_
    refine scons (CStep.step (PStep.c (p_move (y := .val _) rfl (Sees.of rfl) rfl)) rfl rfl rfl rfl) ?_
    refine scons (CStep.step (PStep.c (p_extract rfl (Sees.of rfl) rfl)) rfl rfl rfl rfl) ?_
    refine scons (CStep.step (PStep.c (p_extract rfl (Sees.of rfl) rfl)) rfl rfl rfl rfl) ?_
    refine scons (r_alloc (ob := 10007) rfl wDia6_zer41 rfl rfl rfl rfl rfl rfl) ?_
    refine scons (r_alloc (ob := 10008) rfl wDia6_zer28 rfl rfl rfl rfl rfl rfl) ?_
    refine scons (r_storeS rfl wDia6_siz41 rfl rfl rfl (Sees.of rfl) rfl (Sees.of rfl) rfl rfl rfl rfl) ?_
    refine scons (r_storeS rfl wDia6_siz28 rfl rfl rfl (Sees.of rfl) rfl (Sees.of rfl) rfl rfl rfl rfl) ?_
    refine snil ?_
    refine f_seq ?_
    refine f_region ?_
    refine scons (CStep.step (PStep.c (p_move (y := .val _) rfl (Sees.of rfl) rfl)) rfl rfl rfl rfl) ?_
    refine scons (CStep.step (PStep.c (p_loadBS rfl wDia6_agg41 wDia6_siz41 (Sees.of rfl) rfl rfl rfl)) rfl rfl rfl rfl) ?_
    refine scons (CStep.step (c_call rfl wDia6_isf29 ⟨_, _, rfl, (Sees.of rfl), rfl, ⟨_, _, rfl, (Sees.of rfl), rfl, rfl⟩⟩ (diaCheckR_spec n l r)) rfl rfl rfl rfl) ?_
    refine scons (r_alloc (ob := 10009) rfl wDia6_zer28 rfl rfl rfl rfl rfl rfl) ?_
    refine scons (r_storeS rfl wDia6_siz28 rfl rfl rfl (Sees.of rfl) rfl (Sees.of rfl) rfl rfl rfl rfl) ?_
    refine snil ?_
    refine f_seq ?_
    refine f_seq ?_
    refine f_region ?_
    refine scons (CStep.step (PStep.c (p_fieldRef rfl wDia6_fld28_0 wDia6_siz3 rfl (Sees.of rfl) rfl)) rfl rfl rfl rfl) ?_
    refine scons (CStep.step (PStep.c (p_loadB (y := .val _) rfl wDia6_agg3 (Sees.of rfl) rfl rfl rfl rfl)) rfl rfl rfl rfl) ?_
    refine scons (CStep.step (PStep.c (p_eql rfl (Sees.of rfl) (Sees.of rfl))) rfl rfl rfl rfl) ?_
    refine scons (CStep.step (PStep.c (p_move (y := .val _) rfl (Sees.of rfl) rfl)) rfl rfl rfl rfl) ?_
    refine scons (CStep.guard rfl rfl rfl (fun hg0 => PStep.c (p_move (y := .val _) rfl (Sees.of rfl) rfl)) rfl rfl rfl rfl rfl) ?_
    refine scons (CStep.guard rfl rfl rfl (fun hg0 => PStep.c (p_lss rfl (Sees.gv' rfl hg0) (Sees.of rfl))) rfl rfl rfl rfl rfl) ?_
    refine scons (CStep.guard rfl rfl rfl (fun hg0 => PStep.c (p_move (y := .val _) rfl (Sees.gv' rfl hg0) rfl)) rfl rfl rfl rfl rfl) ?_
    refine scons (CStep.guard2 rfl rfl rfl (fun hg1 hg0 => PStep.c (p_move (y := .val _) rfl (Sees.of rfl) rfl)) rfl rfl rfl rfl rfl) ?_
    refine scons (CStep.guard2 rfl rfl rfl (fun hg1 hg0 => PStep.c (p_move (y := .val _) rfl (Sees.of rfl) rfl)) rfl rfl rfl rfl rfl) ?_
    refine scons (CStep.guard2 rfl rfl rfl (fun hg1 hg0 => PStep.c (p_gtr rfl (Sees.gv' rfl (and_true_of hg1 hg0)) (Sees.gv' rfl (and_true_of hg1 hg0)))) rfl rfl rfl rfl rfl) ?_
    refine scons (CStep.guard rfl rfl rfl (fun hg0 => PStep.c (p_or rfl (Sees.gv' rfl hg0) (Sees.of rfl) (fun h => Sees.gv' rfl (and_true_of hg0 (beq_of_eq h))))) rfl rfl rfl rfl rfl) ?_
    refine scons (CStep.step (PStep.c (p_and rfl (Sees.of rfl) (fun h => Sees.gv' rfl (beq_of_eq h)) (Sees.of rfl))) rfl rfl rfl rfl) ?_
    refine snil ?_
    refine f_cond rfl ?_ ?_
    · intro hc2
      try simp only [bs] at hc2
      refine f_region ?_
      refine scons (CStep.step (PStep.c (p_build rfl wDia6_plc28 wDia6_zer28 (by decide) wDia6_zch28 ⟨_, _, _, rfl, rfl, rfl, (Sees.of rfl), ⟨_, _, _, rfl, rfl, rfl, (Sees.of rfl), rfl⟩⟩ rfl)) rfl rfl rfl rfl) ?_
      refine scons (r_storeS rfl wDia6_siz28 rfl rfl rfl (Sees.of rfl) rfl (Sees.of rfl) rfl rfl rfl rfl) ?_
      refine snil ?_
      refine f_seq ?_
      refine f_seq ?_
      refine f_region ?_
      refine scons (CStep.step (PStep.c (p_fieldRef rfl wDia6_fld28_0 wDia6_siz3 rfl (Sees.of rfl) rfl)) rfl rfl rfl rfl) ?_
      refine scons (CStep.step (PStep.c (p_loadB (y := .val _) rfl wDia6_agg3 (Sees.of rfl) rfl rfl rfl rfl)) rfl rfl rfl rfl) ?_
      refine scons (CStep.step (PStep.c (p_neq rfl (Sees.of rfl) (Sees.of rfl))) rfl rfl rfl rfl) ?_
      refine snil ?_
      refine f_cond rfl ?_ ?_
      · intro hc3
        try simp only [bs] at hc3
        refine f_seq ?_
        refine f_region ?_
        refine scons (CStep.step (PStep.c (p_loadBS rfl wDia6_agg28 wDia6_siz28 (Sees.of rfl) rfl rfl rfl)) rfl rfl rfl rfl) ?_
        refine scons (CStep.step (PStep.c (p_loadBS rfl wDia6_agg28 wDia6_siz28 (Sees.of rfl) rfl rfl rfl)) rfl rfl rfl rfl) ?_
        refine scons (CStep.step (PStep.c (p_eqlS2 rfl wDia6_eq228 (Sees.of rfl) (Sees.of rfl))) rfl rfl rfl rfl) ?_
        refine scons (CStep.step (PStep.c (p_move (y := .val _) rfl (Sees.of rfl) rfl)) rfl rfl rfl rfl) ?_
        refine scons (CStep.guard rfl rfl rfl (fun hg0 => PStep.c (p_loadBS rfl wDia6_agg41 wDia6_siz41 (Sees.of rfl) rfl rfl rfl)) rfl rfl rfl rfl rfl) ?_
        refine scons (CStep.guard rfl rfl rfl (fun hg0 => c_call rfl wDia6_isf23 ⟨_, _, rfl, (Sees.gv' rfl hg0), rfl, rfl⟩ (DiaNone_spec _ _)) rfl rfl rfl rfl rfl) ?_
        refine scons (CStep.step (PStep.c (p_and rfl (Sees.of rfl) (fun h => Sees.gv' rfl (beq_of_eq h)) (Sees.of rfl))) rfl rfl rfl rfl) ?_
        refine scons (CStep.step (PStep.c (p_assign (y := .val _) rfl (Sees.of rfl) rfl)) rfl rfl rfl rfl) ?_
        refine snil ?_
        refine f_ret ?_
        refine ends_ret (res_eq (res1 rfl (res_tmp rfl (Sees.of rfl))) ?_)
        rw [show Sp.diaSome n l r v = ([], 0, 3, -1) by rw [Sp.diaSome, if_neg (fun h => h hc2.1), if_pos (by omega)]]
        rfl
      · intro hc3
        try simp only [bs] at hc3
        exact absurd hc3 (by decide)
    · intro hc2
      try simp only [bs] at hc2
      refine f_skip ?_
      refine f_seq ?_
      refine f_seq ?_
      refine f_region ?_
      refine scons (CStep.step (PStep.c (p_fieldRef rfl wDia6_fld28_0 wDia6_siz3 rfl (Sees.of rfl) rfl)) rfl rfl rfl rfl) ?_
      refine scons (CStep.step (PStep.c (p_loadB (y := .val _) rfl wDia6_agg3 (Sees.of rfl) rfl rfl rfl rfl)) rfl rfl rfl rfl) ?_
      refine scons (CStep.step (PStep.c (p_neq rfl (Sees.of rfl) (Sees.of rfl))) rfl rfl rfl rfl) ?_
      refine snil ?_
      refine f_cond rfl ?_ ?_
      · intro hc4
        try simp only [bs] at hc4
        refine f_seq ?_
        refine f_region ?_
        refine scons (CStep.step (PStep.c (p_loadBS rfl wDia6_agg28 wDia6_siz28 (Sees.of rfl) rfl rfl rfl)) rfl rfl rfl rfl) ?_
        refine scons (CStep.step (PStep.c (p_loadBS rfl wDia6_agg28 wDia6_siz28 (Sees.of rfl) rfl rfl rfl)) rfl rfl rfl rfl) ?_
        refine scons (CStep.step (PStep.c (p_eqlS2 rfl wDia6_eq228 (Sees.of rfl) (Sees.of rfl))) rfl rfl rfl rfl) ?_
        refine scons (CStep.step (PStep.c (p_move (y := .val _) rfl (Sees.of rfl) rfl)) rfl rfl rfl rfl) ?_
        refine scons (CStep.guard rfl rfl rfl (fun hg0 => PStep.c (p_loadBS rfl wDia6_agg41 wDia6_siz41 (Sees.of rfl) rfl rfl rfl)) rfl rfl rfl rfl rfl) ?_
        refine scons (CStep.guard rfl rfl rfl (fun hg0 => c_call rfl wDia6_isf23 ⟨_, _, rfl, (Sees.gv' rfl hg0), rfl, rfl⟩ (DiaNone_spec _ _)) rfl rfl rfl rfl rfl) ?_
        refine scons (CStep.step (PStep.c (p_and rfl (Sees.of rfl) (fun h => Sees.gv' rfl (beq_of_eq h)) (Sees.of rfl))) rfl rfl rfl rfl) ?_
        refine scons (CStep.step (PStep.c (p_assign (y := .val _) rfl (Sees.of rfl) rfl)) rfl rfl rfl rfl) ?_
        refine snil ?_
        refine f_ret ?_
        refine ends_ret (res_eq (res1 rfl (res_tmp rfl (Sees.of rfl))) ?_)
        rw [show Sp.diaSome n l r v = ([], 0, Sp.diaCheck n l r) by rw [Sp.diaSome, if_pos hc4]]
        simp
      · intro hc4
        try simp only [bs] at hc4
        have hq := hc4
        obtain ⟨m, rfl⟩ : ∃ m : Nat, n = (m : Int) := ⟨n.toNat, by have := Sp.dia_ok hq; omega⟩
        have hok := Sp.dia_ok hq
        have hp16 := Sp.pow16 (n := m) (by omega)
        have hm8 : m ≤ 8 := by omega
        have hpw := Sp.pow_ok (m := m) (by omega)
        have hpi := Sp.pow_int m
        refine f_skip ?_
        refine f_seq ?_
        refine f_region ?_
        refine scons (CStep.step (PStep.c (p_assign (y := .emp) rfl (Sees.of rfl) rfl)) rfl rfl rfl rfl) ?_
        refine snil ?_
        refine f_seq ?_
        refine f_seq ?_
        refine f_region ?_
        refine scons (CStep.step (PStep.c (p_assign (y := .val _) rfl (Sees.of rfl) rfl)) rfl rfl rfl rfl) ?_
        refine snil ?_
        refine f_block ?_
        refine f_loop (α := Nat × Nat) (fun (i, u) => i ≤ 2 ^ m) (fun (i, u) => [(11, iv i), (10, .row 20010 u), (20010, .arr u 4 1 1 D.bool false ((Sp.dtab (Sp.some2 (Sp.dvalue l r) v) m).take i)), (7, .ref 10007 0 0), (10007, .box 0 (.ccons (.val (chos (Sp.diaSome m l r v).1)) (.ccons (iv (Sp.diaSome m l r v).2.1) .cnil))), (8, .ref 10008 0 0), (10008, .box 0 (.ccons (iv (Sp.diaSome m l r v).2.2.1) (.ccons (iv (Sp.diaSome m l r v).2.2.2) .cnil))), (9, .ref 10009 0 0), (10009, .box 0 (.ccons (iv (Sp.diaCheck m l r).1) (.ccons (iv (Sp.diaCheck m l r).2) .cnil))), (0, iv (m : Int)), (2, iv v), (4, .ref 10004 0 0), (6, bv false), (10004, .box 0 (.ccons (.val (chos l)) (.ccons (iv r) .cnil)))]) (fun (i, u) => 2 ^ m - i) (0, 0) ?_ ?_ ?_
        · exact Nat.zero_le _
        · exact Le.trans (GLe.le (g_adopt (ob := 20010) (k := 10) 4 1 1 D.bool false rfl rfl rfl rfl)) (le_ofL ⟨rfl, rfl, rfl, rfl, rfl, rfl, rfl, rfl, rfl, rfl, rfl, rfl, rfl, rfl, trivial⟩ rfl)
        · rintro ⟨i, u⟩ hi
          have hi : i ≤ 2 ^ m := hi
          have hdl := Sp.dtab_len (Sp.some2 (Sp.dvalue l r) v) m
          refine f_seq ?_
          refine f_seq ?_
          refine f_region ?_
          refine scons (CStep.step (PStep.c (p_move (y := .val _) rfl (Sees.of rfl) rfl)) rfl rfl rfl rfl) ?_
          refine scons (CStep.step (PStep.c (p_move (y := .val _) rfl (Sees.of rfl) rfl)) rfl rfl rfl rfl) ?_
          refine scons (CStep.step (PStep.c (p_convU rfl wDia6_int3 wDia6_int46 (Sees.of rfl) (by omega))) rfl rfl rfl rfl) ?_
          refine scons (CStep.step (PStep.c (p_shl rfl (Sees.of rfl) (Sees.of rfl) (by omega) (by omega) (by first | omega | assumption))) rfl rfl rfl rfl) ?_
          refine scons (CStep.step (PStep.c (p_lss rfl (Sees.of rfl) (Sees.of rfl))) rfl rfl rfl rfl) ?_
          refine snil ?_
          refine f_cond rfl ?_ ?_
          · intro hc5
            try simp only [bs] at hc5
            refine f_skip ?_
            refine f_seq ?_
            refine f_block ?_
            refine f_seq ?_
            refine f_region ?_
            refine scons (CStep.step (PStep.c (p_move (y := .val _) rfl (Sees.of rfl) rfl)) rfl rfl rfl rfl) ?_
            refine scons (CStep.step (PStep.c (p_move (y := .val _) rfl (Sees.of rfl) rfl)) rfl rfl rfl rfl) ?_
            refine scons (r_callS (q := false) (ob := 10059) false rfl wDia6_isf25 (bits_spec m i (by omega)) (sa_cons (sh_of (Sees.of rfl) rfl) (sa_cons (sh_of (Sees.of rfl) rfl) (sa_nil))) (.inl rfl) rfl rfl rfl rfl rfl) ?_
            refine scons (CStep.step (PStep.c (p_assign (y := .row _ _) rfl (Sees.of rfl) rfl)) rfl rfl rfl rfl) ?_
            refine snil ?_
            refine f_seq ?_
            refine f_region ?_
            refine scons (CStep.step (PStep.c (p_move (y := .val _) rfl (Sees.of rfl) rfl)) rfl rfl rfl rfl) ?_
            refine scons (CStep.step (PStep.c (p_move (y := .val _) rfl (Sees.of rfl) rfl)) rfl rfl rfl rfl) ?_
            refine scons (r_callS (q := false) (ob := 10062) false rfl wDia6_isf25 (bits_spec m i (by omega)) (sa_cons (sh_of (Sees.of rfl) rfl) (sa_cons (sh_of (Sees.of rfl) rfl) (sa_nil))) (.inl rfl) rfl rfl rfl rfl rfl) ?_
            refine scons (CStep.step (PStep.c (p_assign (y := .row _ _) rfl (Sees.of rfl) rfl)) rfl rfl rfl rfl) ?_
            refine snil ?_
            refine f_seq ?_
            refine f_region ?_
            refine scons (CStep.step (PStep.c (p_move (y := .row _ _) rfl (Sees.of rfl) rfl)) rfl rfl rfl rfl) ?_
            refine scons (CStep.step (PStep.c (p_move (y := .val _) rfl (Sees.of rfl) rfl)) rfl rfl rfl rfl) ?_
            refine scons (CStep.step (PStep.c (p_sub rfl (Sees.of rfl) (Sees.of rfl) (by omega))) rfl rfl rfl rfl) ?_
            refine scons (CStep.step (PStep.c ((by first | exact p_indexR rfl wDia6_isl45 wDia6_siz4 (Sees.of rfl) rfl (Sees.of rfl) (by rw [Sp.bits_length]; omega) | exact p_indexRZ rfl wDia6_isl45 wDia6_siz4 (Sees.of rfl) rfl (Sees.of rfl) (by omega) (by rw [Sp.bits_length]; omega)))) rfl rfl rfl rfl) ?_
            refine scons (r_storeE rfl wDia6_siz4 rfl rfl rfl (Sees.of rfl) rfl (by rw [Sp.bits_length]; omega) (Sees.of rfl) rfl) ?_
            refine snil ?_
            refine f_seq ?_
            refine f_region ?_
            refine scons (CStep.step (PStep.c (p_move (y := .row _ _) rfl (Sees.of rfl) rfl)) rfl rfl rfl rfl) ?_
            refine scons (CStep.step (PStep.c (p_move (y := .val _) rfl (Sees.of rfl) rfl)) rfl rfl rfl rfl) ?_
            refine scons (CStep.step (PStep.c (p_sub rfl (Sees.of rfl) (Sees.of rfl) (by omega))) rfl rfl rfl rfl) ?_
            refine scons (CStep.step (PStep.c ((by first | exact p_indexR rfl wDia6_isl45 wDia6_siz4 (Sees.of rfl) rfl (Sees.of rfl) (by rw [Sp.bits_length]; omega) | exact p_indexRZ rfl wDia6_isl45 wDia6_siz4 (Sees.of rfl) rfl (Sees.of rfl) (by omega) (by rw [Sp.bits_length]; omega)))) rfl rfl rfl rfl) ?_
            refine scons (r_storeE rfl wDia6_siz4 rfl rfl rfl (Sees.of rfl) rfl (by rw [Sp.bits_length]; omega) (Sees.of rfl) rfl) ?_
            refine snil ?_
            refine f_region ?_
            refine scons (CStep.step (PStep.c (p_move (y := .row _ _) rfl (Sees.of rfl) rfl)) rfl rfl rfl rfl) ?_
            refine scons (CStep.step (PStep.c (p_loadBS rfl wDia6_agg41 wDia6_siz41 (Sees.of rfl) rfl rfl rfl)) rfl rfl rfl rfl) ?_
            refine scons (CStep.step (PStep.c (p_move (y := .row _ _) rfl (Sees.of rfl) rfl)) rfl rfl rfl rfl) ?_
            refine scons (CStep.step (c_callS (q := true) rfl wDia6_isf38 (valueR_spec m l r ((Sp.bits m i).set (v - 1).toNat false) hq (by rw [List.length_set, Sp.bits_length])) (sa_cons (sh_of (Sees.of rfl) rfl) (sa_cons (sh_row (Sees.of rfl) rfl) (sa_nil))) rfl) rfl rfl rfl rfl) ?_
            refine scons (CStep.step (PStep.c (p_move (y := .val _) rfl (Sees.of rfl) rfl)) rfl rfl rfl rfl) ?_
            refine scons (CStep.guard rfl rfl rfl (fun hg0 => PStep.c (p_loadBS rfl wDia6_agg41 wDia6_siz41 (Sees.of rfl) rfl rfl rfl)) rfl rfl rfl rfl rfl) ?_
            refine scons (CStep.guard rfl rfl rfl (fun hg0 => PStep.c (p_move (y := .row _ _) rfl (Sees.of rfl) rfl)) rfl rfl rfl rfl rfl) ?_
            refine scons (CStep.guard rfl rfl rfl (fun hg0 => c_callS (q := true) rfl wDia6_isf38 (valueR_spec m l r ((Sp.bits m i).set (v - 1).toNat true) hq (by rw [List.length_set, Sp.bits_length])) (sa_cons (sh_of (Sees.gv' rfl hg0) rfl) (sa_cons (sh_row (Sees.gv' rfl hg0) rfl) (sa_nil))) rfl) rfl rfl rfl rfl rfl) ?_
            refine scons (CStep.step (PStep.c (p_or rfl (Sees.of rfl) (Sees.of rfl) (fun h => Sees.gv' rfl (beq_of_eq h)))) rfl rfl rfl rfl) ?_
            refine scons (CStep.step (c_buildSlice (f := D.bool) (za := false) (xs := [.tmp 79]) rfl rfl wDia6_isl45 wDia6_siz4 wDia6_zer4 rfl rfl ⟨_, _, rfl, (Sees.of rfl), rfl, rfl, rfl⟩) rfl rfl rfl rfl) ?_
            refine scons (r_appendR (ob := 20010) rfl wDia6_isl45 wDia6_siz4 wDia6_byt4 wDia6_zer4 rfl rfl (Sees.of rfl) rfl (Sees.of rfl) (by simp only [List.length_take, hdl, List.length_cons, List.length_nil]; omega) (by simp only [List.length_take, hdl, List.length_cons, List.length_nil]; omega) rfl rfl rfl rfl rfl) ?_
            refine scons (CStep.step (PStep.c (p_assign (y := .row _ _) rfl (Sees.of rfl) rfl)) rfl rfl rfl rfl) ?_
            refine snil ?_
            refine f_nil ?_
            show AWs _ _ _ _ _
            refine f_region ?_
            refine scons (CStep.step (PStep.c (p_move (y := .val _) rfl (Sees.of rfl) rfl)) rfl rfl rfl rfl) ?_
            refine scons (CStep.step (PStep.c (p_add rfl (Sees.of rfl) (Sees.of rfl) (by omega))) rfl rfl rfl rfl) ?_
            refine scons (CStep.step (PStep.c (p_assign (y := .val _) rfl (Sees.of rfl) rfl)) rfl rfl rfl rfl) ?_
            refine snil ?_
            refine f_back ⟨(i + 1, u + 1), ?_, ?_, le_ofL ⟨rfl, rfl, (by rw [Sp.take_getD _ i false (by omega), Sp.dtab_at _ _ _ (by omega)]; rfl), rfl, rfl, rfl, rfl, rfl, rfl, rfl, rfl, rfl, rfl, rfl, trivial⟩ rfl⟩
            · show i + 1 ≤ 2 ^ m
              omega
            · show 2 ^ m - (i + 1) < 2 ^ m - i
              omega
          · intro hc5
            try simp only [bs] at hc5
            refine f_exit ?_
            show AWs _ _ _ _ _
            refine f_seq ?_
            obtain rfl : i = 2 ^ m := by omega
            refine f_le (GLe.le (g_freeze (k := 10) (o1 := 20010) rfl rfl rfl rfl)) ?_ (by simp)
            refine f_draw wDia6_mix (by kernel_rfl) ?_
            refine dcons (CStep.step (PStep.c (p_loadBS rfl wDia6_agg28 wDia6_siz28 (Sees.of rfl) rfl rfl rfl)) rfl rfl rfl rfl) ?_
            refine dcons (CStep.step (PStep.c (p_loadBS rfl wDia6_agg28 wDia6_siz28 (Sees.of rfl) rfl rfl rfl)) rfl rfl rfl rfl) ?_
            refine dcons (CStep.step (PStep.c (p_eqlS2 rfl wDia6_eq228 (Sees.of rfl) (Sees.of rfl))) rfl rfl rfl rfl) ?_
            refine dcons (CStep.step (PStep.c (p_move (y := .val _) rfl (Sees.of rfl) rfl)) rfl rfl rfl rfl) ?_
            refine dcons (CStep.guard rfl rfl rfl (fun hg0 => PStep.c (p_loadBS rfl wDia6_agg41 wDia6_siz41 (Sees.of rfl) rfl rfl rfl)) rfl rfl rfl rfl rfl) ?_
            refine dcons (CStep.guard rfl rfl rfl (fun hg0 => PStep.c (p_move (y := .val _) rfl (Sees.of rfl) rfl)) rfl rfl rfl rfl rfl) ?_
            refine dcons (CStep.guard rfl rfl rfl (fun hg0 => by have hp0 := hg0; (try simp only [bs] at hp0); exact c_call rfl wDia6_isf27 ⟨_, _, rfl, (Sees.gv' rfl hg0), rfl, rfl⟩ (DiaOf_spec m ((Sp.dtab (Sp.some2 (Sp.dvalue l r) v) m).take (2 ^ m)) (by omega) (by rw [List.length_take, Sp.dtab_len, Nat.min_self]))) rfl rfl rfl rfl rfl) ?_
            refine dcons (CStep.guard rfl rfl rfl (fun hg0 => c_call rfl wDia6_isf26 ⟨_, _, rfl, (Sees.gv' rfl hg0), rfl, ⟨_, _, rfl, (Sees.gv' rfl hg0), rfl, rfl⟩⟩ (DiaSame_spec _ _ _ _)) rfl rfl rfl rfl rfl) ?_
            refine dcons (CStep.step (PStep.c (p_and rfl (Sees.of rfl) (fun h => Sees.gv' rfl (beq_of_eq h)) (Sees.of rfl))) rfl rfl rfl rfl) ?_
            refine dcons (CStep.step (PStep.c (p_move (y := .val _) rfl (Sees.of rfl) rfl)) rfl rfl rfl rfl) ?_
            refine dcons (CStep.guard rfl rfl rfl (fun hg0 => c_call rfl wDia6_isf28 rfl (diaSure_spec)) rfl rfl rfl rfl rfl) ?_
            refine dcons (CStep.step (PStep.c (p_and rfl (Sees.of rfl) (fun h => Sees.gv' rfl (beq_of_eq h)) (Sees.of rfl))) rfl rfl rfl rfl) ?_
            refine dcons (CStep.step (PStep.c (p_assign (y := .val _) rfl (Sees.of rfl) rfl)) rfl rfl rfl rfl) ?_
            refine dnil (by kernel_rfl) ?_
            refine f_ret ?_
            refine ends_ret (res_eq (res1 rfl (res_tmp rfl (Sees.of rfl))) ?_)
            have e : Sp.diaSome m l r v = ((Sp.grow m [] (Sp.dtab (Sp.some2 (Sp.dvalue l r) v) m) 1).1, (Sp.grow m [] (Sp.dtab (Sp.some2 (Sp.dvalue l r) v) m) 1).2, 0, 0) := by rw [Sp.diaSome, if_neg (fun h => h hq), if_neg (by omega), Int.toNat_natCast, Sp.built_few hm8]
            have e2 := Sp.dia_zero hq
            rw [List.take_of_length_le (by omega), e, e2]
            simp

end Go.Um
