/- Walks of Go functions of this seat, each by its contract. No condition beyond what each theorem says. -/
import Derived.Test.YtfabigjdelfagaaWDia4
import Derived.Test.YtfabigjdelfagaaSpC
import Derived.Test.YtfabigjdelfagaaBit
import Derived.Test.YtfabigjdelfagaaProg
import Derived.KernelRfl
set_option maxRecDepth 4000
namespace Go.Um
open Go Go.RowKit

theorem wDia5_agg22 : IsAgg Go.Proofs.Try.prog 22 false := by unfold IsAgg; kernel_rfl
theorem wDia5_agg24 : IsAgg Go.Proofs.Try.prog 24 true := by unfold IsAgg; kernel_rfl
theorem wDia5_agg28 : IsAgg Go.Proofs.Try.prog 28 true := by unfold IsAgg; kernel_rfl
theorem wDia5_agg3 : IsAgg Go.Proofs.Try.prog 3 false := by unfold IsAgg; kernel_rfl
theorem wDia5_agg4 : IsAgg Go.Proofs.Try.prog 4 false := by unfold IsAgg; kernel_rfl
theorem wDia5_agg41 : IsAgg Go.Proofs.Try.prog 41 true := by unfold IsAgg; kernel_rfl
theorem wDia5_agg5 : IsAgg Go.Proofs.Try.prog 5 false := by unfold IsAgg; kernel_rfl
theorem wDia5_boo4 : IsBool Go.Proofs.Try.prog 4 := by unfold IsBool; kernel_rfl
theorem wDia5_eq228 : Eq2 Go.Proofs.Try.prog 28 := ⟨_, _, Go.Proofs.Try.underlying28, by decide, by decide, rfl, rfl, Go.Proofs.Try.underlying3, Go.Proofs.Try.underlying3, by kernel_rfl, by kernel_rfl⟩
theorem wDia5_fld24_0 : IsField Go.Proofs.Try.prog 24 0 0 3 := by unfold IsField; kernel_rfl
theorem wDia5_fld24_1 : IsField Go.Proofs.Try.prog 24 1 1 22 := by unfold IsField; kernel_rfl
theorem wDia5_fld28_0 : IsField Go.Proofs.Try.prog 28 0 0 3 := by unfold IsField; kernel_rfl
theorem wDia5_int3 : IsInt Go.Proofs.Try.prog 3 .i64 := by unfold IsInt; kernel_rfl
theorem wDia5_int46 : IsInt Go.Proofs.Try.prog 46 .u64 := by unfold IsInt; kernel_rfl
theorem wDia5_isf22 : IsFn Go.Proofs.Try.prog 22 := by unfold IsFn; kernel_rfl
theorem wDia5_isf23 : IsFn Go.Proofs.Try.prog 23 := by unfold IsFn; kernel_rfl
theorem wDia5_isf24 : IsFn Go.Proofs.Try.prog 24 := by unfold IsFn; kernel_rfl
theorem wDia5_isf25 : IsFn Go.Proofs.Try.prog 25 := by unfold IsFn; kernel_rfl
theorem wDia5_isf26 : IsFn Go.Proofs.Try.prog 26 := by unfold IsFn; kernel_rfl
theorem wDia5_isf27 : IsFn Go.Proofs.Try.prog 27 := by unfold IsFn; kernel_rfl
theorem wDia5_isf28 : IsFn Go.Proofs.Try.prog 28 := by unfold IsFn; kernel_rfl
theorem wDia5_isf29 : IsFn Go.Proofs.Try.prog 29 := by unfold IsFn; kernel_rfl
theorem wDia5_isf34 : IsFn Go.Proofs.Try.prog 34 := by unfold IsFn; kernel_rfl
theorem wDia5_isf35 : IsFn Go.Proofs.Try.prog 35 := by unfold IsFn; kernel_rfl
theorem wDia5_isf36 : IsFn Go.Proofs.Try.prog 36 := by unfold IsFn; kernel_rfl
theorem wDia5_isf52 : IsFn Go.Proofs.Try.prog 52 := by unfold IsFn; kernel_rfl
theorem wDia5_isf66 : IsFn Go.Proofs.Try.prog 66 := by unfold IsFn; kernel_rfl
theorem wDia5_isf67 : IsFn Go.Proofs.Try.prog 67 := by unfold IsFn; kernel_rfl
theorem wDia5_isl22 : IsSlice Go.Proofs.Try.prog 22 32 := by unfold IsSlice; kernel_rfl
theorem wDia5_isl45 : IsSlice Go.Proofs.Try.prog 45 4 := by unfold IsSlice; kernel_rfl
theorem wDia5_isl91 : IsSlice Go.Proofs.Try.prog 91 5 := by unfold IsSlice; kernel_rfl
theorem wDia5_mix : (Go.Proofs.Try.prog).follows .mixedOrders = true := by kernel_rfl
theorem wDia5_plc41 : Places Go.Proofs.Try.prog 41 [(0, 1), (1, 1)] := by unfold Places; kernel_rfl
theorem wDia5_siz22 : Size Go.Proofs.Try.prog 22 1 := by unfold Size; kernel_rfl
theorem wDia5_siz24 : Size Go.Proofs.Try.prog 24 2 := by unfold Size; kernel_rfl
theorem wDia5_siz28 : Size Go.Proofs.Try.prog 28 2 := by unfold Size; kernel_rfl
theorem wDia5_siz3 : Size Go.Proofs.Try.prog 3 1 := by unfold Size; kernel_rfl
theorem wDia5_siz4 : Size Go.Proofs.Try.prog 4 1 := by unfold Size; kernel_rfl
theorem wDia5_siz41 : Size Go.Proofs.Try.prog 41 2 := by unfold Size; kernel_rfl
theorem wDia5_siz5 : Size Go.Proofs.Try.prog 5 1 := by unfold Size; kernel_rfl
def wDia5_z41 : D := .cons (chos []) (.cons (.int .i64 0) (.nil))
theorem wDia5_zch41 : ∀ (ok : Nat → Prop) (w : World), R Go.Proofs.Try.prog wDia5_z41 ok w (Value.cells (.agg #[(.slice none 0 0), (.int .i64 0)])).toList := fun _ _ => z_list (z_int (z_nil))
theorem wDia5_zer28 : Zero Go.Proofs.Try.prog 28 (.agg #[(.int .i64 0), (.int .i64 0)]) := by unfold Zero; kernel_rfl
theorem wDia5_zer41 : Zero Go.Proofs.Try.prog 41 (.agg #[(.slice none 0 0), (.int .i64 0)]) := by unfold Zero; kernel_rfl

theorem Built_spec2 (n : Nat) (t : List Bool) (u : List Int) (hn : n ≤ 16) (ht : t.length = 2 ^ n) (hu : u = t.map Sp.b01) : Spec Go.Proofs.Try.prog 52 [.val (bytes u)] (two (dia (Sp.diaBuilt n t).1 (Sp.diaBuilt n t).2.1) (fault (Sp.diaBuilt n t).2.2.1 (Sp.diaBuilt n t).2.2.2)) := by
  subst hu
  exact Built_spec n t hn ht
theorem DiaOne_spec (n : Int) (ls : List (List Int)) (n' : Int) (ls' : List (List Int)) :
    Spec Go.Proofs.Try.prog 5 [.val (cnf n ls), .val (cnf n' ls')] (D.bool true) := by
  refine spec_of' Go.Proofs.Try.func5 rfl Go.Proofs.Try.ntmps5 rfl ?_
  refine f_seq ?_
  refine f_region ?_
  refine scons (r_box (ob := 10002) rfl (Sees.of rfl) rfl rfl rfl rfl rfl rfl) ?_
  refine scons (r_box (ob := 10003) rfl (Sees.of rfl) rfl rfl rfl rfl rfl rfl) ?_
  refine scons (CStep.step (PStep.c (p_assign (y := .val _) rfl (Sees.of rfl) rfl)) rfl rfl rfl rfl) ?_
  refine snil ?_
  refine f_seq ?_
  refine f_seq ?_
  refine f_region ?_
  refine scons (CStep.step (PStep.c (p_fieldRef rfl wDia5_fld24_0 wDia5_siz3 rfl (Sees.of rfl) rfl)) rfl rfl rfl rfl) ?_
  refine scons (CStep.step (PStep.c (p_loadB (y := .val _) rfl wDia5_agg3 (Sees.of rfl) rfl rfl rfl rfl)) rfl rfl rfl rfl) ?_
  refine scons (CStep.step (PStep.c (p_gtr rfl (Sees.of rfl) (Sees.of rfl))) rfl rfl rfl rfl) ?_
  refine scons (CStep.step (PStep.c (p_move (y := .val _) rfl (Sees.of rfl) rfl)) rfl rfl rfl rfl) ?_
  refine scons (CStep.guard rfl rfl rfl (fun hg0 => PStep.c (p_fieldRef rfl wDia5_fld24_1 wDia5_siz22 rfl (Sees.of rfl) rfl)) rfl rfl rfl rfl rfl) ?_
  refine scons (CStep.guard rfl rfl rfl (fun hg0 => PStep.c (p_loadB (y := .val _) rfl wDia5_agg22 (Sees.gv' rfl hg0) rfl rfl rfl rfl)) rfl rfl rfl rfl rfl) ?_
  refine scons (CStep.guard rfl rfl rfl (fun hg0 => PStep.c (p_len rfl wDia5_isl22 (Sees.gv' rfl hg0))) rfl rfl rfl rfl rfl) ?_
  refine scons (CStep.guard rfl rfl rfl (fun hg0 => PStep.c (p_gtr rfl (Sees.gv' rfl hg0) (Sees.of rfl))) rfl rfl rfl rfl rfl) ?_
  refine scons (CStep.step (PStep.c (p_or rfl (Sees.of rfl) (Sees.of rfl) (fun h => Sees.gv' rfl (beq_of_eq h)))) rfl rfl rfl rfl) ?_
  refine scons (CStep.step (PStep.c (p_move (y := .val _) rfl (Sees.of rfl) rfl)) rfl rfl rfl rfl) ?_
  refine scons (CStep.guard rfl rfl rfl (fun hg0 => PStep.c (p_fieldRef rfl wDia5_fld24_1 wDia5_siz22 rfl (Sees.of rfl) rfl)) rfl rfl rfl rfl rfl) ?_
  refine scons (CStep.guard rfl rfl rfl (fun hg0 => PStep.c (p_loadB (y := .val _) rfl wDia5_agg22 (Sees.gv' rfl hg0) rfl rfl rfl rfl)) rfl rfl rfl rfl rfl) ?_
  refine scons (CStep.guard rfl rfl rfl (fun hg0 => PStep.c (p_len rfl wDia5_isl22 (Sees.gv' rfl hg0))) rfl rfl rfl rfl rfl) ?_
  refine scons (CStep.guard rfl rfl rfl (fun hg0 => PStep.c (p_gtr rfl (Sees.gv' rfl hg0) (Sees.of rfl))) rfl rfl rfl rfl rfl) ?_
  refine scons (CStep.step (PStep.c (p_or rfl (Sees.of rfl) (Sees.of rfl) (fun h => Sees.gv' rfl (beq_of_eq h)))) rfl rfl rfl rfl) ?_
  refine scons (CStep.step (PStep.c (p_move (y := .val _) rfl (Sees.of rfl) rfl)) rfl rfl rfl rfl) ?_
  refine scons (CStep.guard rfl rfl rfl (fun hg0 => PStep.c (p_fieldRef rfl wDia5_fld24_0 wDia5_siz3 rfl (Sees.of rfl) rfl)) rfl rfl rfl rfl rfl) ?_
  refine scons (CStep.guard rfl rfl rfl (fun hg0 => PStep.c (p_loadB (y := .val _) rfl wDia5_agg3 (Sees.gv' rfl hg0) rfl rfl rfl rfl)) rfl rfl rfl rfl rfl) ?_
  refine scons (CStep.guard rfl rfl rfl (fun hg0 => PStep.c (p_lss rfl (Sees.gv' rfl hg0) (Sees.of rfl))) rfl rfl rfl rfl rfl) ?_
  refine scons (CStep.step (PStep.c (p_or rfl (Sees.of rfl) (Sees.of rfl) (fun h => Sees.gv' rfl (beq_of_eq h)))) rfl rfl rfl rfl) ?_
  refine snil ?_
  refine f_cond rfl ?_ ?_
  · intro hc1
    try simp only [bs] at hc1
    refine f_seq ?_
    refine f_region ?_
    refine scons (CStep.step (PStep.c (p_assign (y := .val _) rfl (Sees.of rfl) rfl)) rfl rfl rfl rfl) ?_
    refine snil ?_
    refine f_ret ?_
    refine ends_ret (res_eq (res1 rfl (res_tmp rfl (Sees.of rfl))) ?_)
    rfl
  · intro hc1
    try simp only [bs] at hc1
    refine f_skip ?_
    refine f_seq ?_
    refine f_region ?_
    refine scons (CStep.step (PStep.c (p_fieldRef rfl wDia5_fld24_0 wDia5_siz3 rfl (Sees.of rfl) rfl)) rfl rfl rfl rfl) ?_
    refine scons (CStep.step (PStep.c (p_loadB (y := .val _) rfl wDia5_agg3 (Sees.of rfl) rfl rfl rfl rfl)) rfl rfl rfl rfl) ?_
    refine scons (CStep.step (PStep.c (p_fieldRef rfl wDia5_fld24_0 wDia5_siz3 rfl (Sees.of rfl) rfl)) rfl rfl rfl rfl) ?_
    refine scons (r_store rfl wDia5_siz3 rfl rfl rfl (Sees.of rfl) rfl rfl (Sees.of rfl) (one_val rfl)) ?_
    refine snil ?_
    refine f_seq ?_
    refine f_region ?_
    refine scons (CStep.step (PStep.c (p_loadBS rfl wDia5_agg24 wDia5_siz24 (Sees.of rfl) rfl rfl rfl)) rfl rfl rfl rfl) ?_
    refine scons (CStep.step (c_call rfl wDia5_isf22 ⟨_, _, rfl, (Sees.of rfl), rfl, rfl⟩ (Of_spec n ls)) rfl rfl rfl rfl) ?_
    refine scons (CStep.step (PStep.c (p_move (y := .val _) rfl (Sees.of rfl) rfl)) rfl rfl rfl rfl) ?_
    refine scons (CStep.step (PStep.c (p_extract rfl (Sees.of rfl) rfl)) rfl rfl rfl rfl) ?_
    refine scons (CStep.step (PStep.c (p_extract rfl (Sees.of rfl) rfl)) rfl rfl rfl rfl) ?_
    refine scons (r_alloc (ob := 10005) rfl wDia5_zer41 rfl rfl rfl rfl rfl rfl) ?_
    refine scons (r_alloc (ob := 10006) rfl wDia5_zer28 rfl rfl rfl rfl rfl rfl) ?_
    refine scons (r_storeS rfl wDia5_siz41 rfl rfl rfl (Sees.of rfl) rfl (Sees.of rfl) rfl rfl rfl rfl) ?_
    refine scons (r_storeS rfl wDia5_siz28 rfl rfl rfl (Sees.of rfl) rfl (Sees.of rfl) rfl rfl rfl rfl) ?_
    refine snil ?_
    refine f_seq ?_
    refine f_region ?_
    refine scons (CStep.step (PStep.c (p_loadBS rfl wDia5_agg24 wDia5_siz24 (Sees.of rfl) rfl rfl rfl)) rfl rfl rfl rfl) ?_
    refine scons (CStep.step (c_call rfl wDia5_isf22 ⟨_, _, rfl, (Sees.of rfl), rfl, rfl⟩ (Of_spec n ls')) rfl rfl rfl rfl) ?_
    refine scons (CStep.step (PStep.c (p_move (y := .val _) rfl (Sees.of rfl) rfl)) rfl rfl rfl rfl) ?_
    refine scons (CStep.step (PStep.c (p_extract rfl (Sees.of rfl) rfl)) rfl rfl rfl rfl) ?_
    refine scons (CStep.step (PStep.c (p_extract rfl (Sees.of rfl) rfl)) rfl rfl rfl rfl) ?_
    refine scons (r_alloc (ob := 10007) rfl wDia5_zer41 rfl rfl rfl rfl rfl rfl) ?_
    refine scons (r_alloc (ob := 10008) rfl wDia5_zer28 rfl rfl rfl rfl rfl rfl) ?_
    refine scons (r_storeS rfl wDia5_siz41 rfl rfl rfl (Sees.of rfl) rfl (Sees.of rfl) rfl rfl rfl rfl) ?_
    refine scons (r_storeS rfl wDia5_siz28 rfl rfl rfl (Sees.of rfl) rfl (Sees.of rfl) rfl rfl rfl rfl) ?_
    refine snil ?_
    refine f_seq ?_
    refine f_seq ?_
    refine f_region ?_
    refine scons (CStep.step (PStep.c (p_fieldRef rfl wDia5_fld28_0 wDia5_siz3 rfl (Sees.of rfl) rfl)) rfl rfl rfl rfl) ?_
    refine scons (CStep.step (PStep.c (p_loadB (y := .val _) rfl wDia5_agg3 (Sees.of rfl) rfl rfl rfl rfl)) rfl rfl rfl rfl) ?_
    refine scons (CStep.step (PStep.c (p_neq rfl (Sees.of rfl) (Sees.of rfl))) rfl rfl rfl rfl) ?_
    refine scons (CStep.step (PStep.c (p_move (y := .val _) rfl (Sees.of rfl) rfl)) rfl rfl rfl rfl) ?_
    refine scons (CStep.guard rfl rfl rfl (fun hg0 => PStep.c (p_fieldRef rfl wDia5_fld28_0 wDia5_siz3 rfl (Sees.of rfl) rfl)) rfl rfl rfl rfl rfl) ?_
    refine scons (CStep.guard rfl rfl rfl (fun hg0 => PStep.c (p_loadB (y := .val _) rfl wDia5_agg3 (Sees.gv' rfl hg0) rfl rfl rfl rfl)) rfl rfl rfl rfl rfl) ?_
    refine scons (CStep.guard rfl rfl rfl (fun hg0 => PStep.c (p_neq rfl (Sees.gv' rfl hg0) (Sees.of rfl))) rfl rfl rfl rfl rfl) ?_
    refine scons (CStep.step (PStep.c (p_or rfl (Sees.of rfl) (Sees.of rfl) (fun h => Sees.gv' rfl (beq_of_eq h)))) rfl rfl rfl rfl) ?_
    refine snil ?_
    refine f_cond rfl ?_ ?_
    · intro hc2
      try simp only [bs] at hc2
      refine f_seq ?_
      refine f_region ?_
      refine scons (CStep.step (PStep.c (p_fieldRef rfl wDia5_fld28_0 wDia5_siz3 rfl (Sees.of rfl) rfl)) rfl rfl rfl rfl) ?_
      refine scons (CStep.step (PStep.c (p_loadB (y := .val _) rfl wDia5_agg3 (Sees.of rfl) rfl rfl rfl rfl)) rfl rfl rfl rfl) ?_
      refine scons (CStep.step (PStep.c (p_eql rfl (Sees.of rfl) (Sees.of rfl))) rfl rfl rfl rfl) ?_
      refine scons (CStep.step (PStep.c (p_move (y := .val _) rfl (Sees.of rfl) rfl)) rfl rfl rfl rfl) ?_
      refine scons (CStep.guard rfl rfl rfl (fun hg0 => PStep.c (p_loadBS rfl wDia5_agg41 wDia5_siz41 (Sees.of rfl) rfl rfl rfl)) rfl rfl rfl rfl rfl) ?_
      refine scons (CStep.guard rfl rfl rfl (fun hg0 => c_call rfl wDia5_isf23 ⟨_, _, rfl, (Sees.gv' rfl hg0), rfl, rfl⟩ (DiaNone_spec _ _)) rfl rfl rfl rfl rfl) ?_
      refine scons (CStep.step (PStep.c (p_or rfl (Sees.of rfl) (Sees.of rfl) (fun h => Sees.gv' rfl (beq_of_eq h)))) rfl rfl rfl rfl) ?_
      refine scons (CStep.step (PStep.c (p_assign (y := .val _) rfl (Sees.of rfl) rfl)) rfl rfl rfl rfl) ?_
      refine snil ?_
      refine f_ret ?_
      refine ends_ret (res_eq (res1 rfl (res_tmp rfl (Sees.of rfl))) ?_)
      by_cases h : (Sp.diaOf n ls).2.2.1 = 0
      · simp [h]
      · simp [h, (Sp.of_code h).1, (Sp.of_code h).2]
    · intro hc2
      try simp only [bs] at hc2
      obtain ⟨m, rfl⟩ : ∃ m : Nat, n = (m : Int) := ⟨n.toNat, by omega⟩
      have ht1 := Sp.of_try hc2.1
      have ht2 := Sp.of_try hc2.2
      have hto := Sp.try_ok ht1
      have hto2 := Sp.try_ok ht2
      have hm8 : m ≤ 8 := by omega
      have hp16 := Sp.pow16 (n := m) (by omega)
      have hpw := Sp.pow_ok (m := m) (by omega)
      have hpi := Sp.pow_int m
      refine f_skip ?_
      refine f_seq ?_
      refine f_region ?_
      refine scons (CStep.step (PStep.c (p_assign (y := .val _) rfl (Sees.of rfl) rfl)) rfl rfl rfl rfl) ?_
      refine snil ?_
      refine f_seq ?_
      refine f_seq ?_
      refine f_region ?_
      refine scons (CStep.step (PStep.c (p_assign (y := .val _) rfl (Sees.of rfl) rfl)) rfl rfl rfl rfl) ?_
      refine snil ?_
      refine f_block ?_
      refine f_loop (α := Nat) (fun i => i ≤ 2 ^ m) (fun i => [(10, iv i), (9, bv (decide ((Sp.dtab (fun a => Sp.all a ls) m).take i = (Sp.dtab (fun a => Sp.all a ls') m).take i))), (5, .ref 10005 0 0), (10005, .box 0 (.ccons (.val (chos (Sp.diaOf m ls).1)) (.ccons (iv (Sp.diaOf m ls).2.1) .cnil))), (7, .ref 10007 0 0), (10007, .box 0 (.ccons (.val (chos (Sp.diaOf m ls').1)) (.ccons (iv (Sp.diaOf m ls').2.1) .cnil))), (3, .ref 10003 0 0), (10003, .box 0 (.ccons (iv (m : Int)) (.ccons (.val (intss ls')) .cnil))), (2, .ref 10002 0 0), (4, bv false), (10002, .box 0 (.ccons (iv (m : Int)) (.ccons (.val (intss ls)) .cnil)))]) (fun i => 2 ^ m - i) 0 ?_ ?_ ?_
      · exact Nat.zero_le _
      · exact le_ofL ⟨rfl, (by show AV.val (D.bool true) = _; simp), rfl, rfl, rfl, rfl, rfl, rfl, rfl, rfl, rfl, trivial⟩ rfl
      · rintro i hi
        have hi : i ≤ 2 ^ m := hi
        have hdl := Sp.dtab_len (fun a => Sp.all a ls) m
        have hdl2 := Sp.dtab_len (fun a => Sp.all a ls') m
        refine f_seq ?_
        refine f_seq ?_
        refine f_region ?_
        refine scons (CStep.step (PStep.c (p_move (y := .val _) rfl (Sees.of rfl) rfl)) rfl rfl rfl rfl) ?_
        refine scons (CStep.step (PStep.c (p_fieldRef rfl wDia5_fld24_0 wDia5_siz3 rfl (Sees.of rfl) rfl)) rfl rfl rfl rfl) ?_
        refine scons (CStep.step (PStep.c (p_loadB (y := .val _) rfl wDia5_agg3 (Sees.of rfl) rfl rfl rfl rfl)) rfl rfl rfl rfl) ?_
        refine scons (CStep.step (PStep.c (p_convU rfl wDia5_int3 wDia5_int46 (Sees.of rfl) (by omega))) rfl rfl rfl rfl) ?_
        refine scons (CStep.step (PStep.c (p_shl rfl (Sees.of rfl) (Sees.of rfl) (by omega) (by omega) (by first | omega | assumption))) rfl rfl rfl rfl) ?_
        refine scons (CStep.step (PStep.c (p_lss rfl (Sees.of rfl) (Sees.of rfl))) rfl rfl rfl rfl) ?_
        refine snil ?_
        refine f_cond rfl ?_ ?_
        · intro hc3
          try simp only [bs] at hc3
          refine f_skip ?_
          refine f_seq ?_
          refine f_block ?_
          refine f_draw wDia5_mix (by kernel_rfl) ?_
          refine dcons (CStep.step (PStep.c (p_move (y := .val _) rfl (Sees.of rfl) rfl)) rfl rfl rfl rfl) ?_
          refine dcons (CStep.step (PStep.c (p_move (y := .val _) rfl (Sees.of rfl) rfl)) rfl rfl rfl rfl) ?_
          refine dcons (CStep.guard rfl rfl rfl (fun hg0 => PStep.c (p_fieldRef rfl wDia5_fld24_1 wDia5_siz22 rfl (Sees.of rfl) rfl)) rfl rfl rfl rfl rfl) ?_
          refine dcons (CStep.guard rfl rfl rfl (fun hg0 => PStep.c (p_loadB (y := .val _) rfl wDia5_agg22 (Sees.gv' rfl hg0) rfl rfl rfl rfl)) rfl rfl rfl rfl rfl) ?_
          refine dcons (CStep.guard rfl rfl rfl (fun hg0 => PStep.c (p_fieldRef rfl wDia5_fld24_0 wDia5_siz3 rfl (Sees.of rfl) rfl)) rfl rfl rfl rfl rfl) ?_
          refine dcons (CStep.guard rfl rfl rfl (fun hg0 => PStep.c (p_loadB (y := .val _) rfl wDia5_agg3 (Sees.gv' rfl hg0) rfl rfl rfl rfl)) rfl rfl rfl rfl rfl) ?_
          refine dcons (CStep.guard rfl rfl rfl (fun hg0 => PStep.c (p_move (y := .val _) rfl (Sees.of rfl) rfl)) rfl rfl rfl rfl rfl) ?_
          refine dcons (CStep.guard rfl rfl rfl (fun hg0 => by have hp0 := hg0; (try simp only [bs] at hp0); exact c_call rfl wDia5_isf25 ⟨_, _, rfl, (Sees.gv' rfl hg0), rfl, ⟨_, _, rfl, (Sees.gv' rfl hg0), rfl, rfl⟩⟩ ((bits_spec m i (by omega)).spec false)) rfl rfl rfl rfl rfl) ?_
          refine dcons (CStep.guard rfl rfl rfl (fun hg0 => c_call rfl wDia5_isf24 ⟨_, _, rfl, (Sees.gv' rfl hg0), rfl, ⟨_, _, rfl, (Sees.gv' rfl hg0), rfl, rfl⟩⟩ (all_spec (Sp.bits m i) ls (by rw [Sp.bits_length]; exact Sp.check_good hto.2.1 rfl))) rfl rfl rfl rfl rfl) ?_
          refine dcons (CStep.guard rfl rfl rfl (fun hg0 => PStep.c (p_fieldRef rfl wDia5_fld24_1 wDia5_siz22 rfl (Sees.of rfl) rfl)) rfl rfl rfl rfl rfl) ?_
          refine dcons (CStep.guard rfl rfl rfl (fun hg0 => PStep.c (p_loadB (y := .val _) rfl wDia5_agg22 (Sees.gv' rfl hg0) rfl rfl rfl rfl)) rfl rfl rfl rfl rfl) ?_
          refine dcons (CStep.guard rfl rfl rfl (fun hg0 => PStep.c (p_fieldRef rfl wDia5_fld24_0 wDia5_siz3 rfl (Sees.of rfl) rfl)) rfl rfl rfl rfl rfl) ?_
          refine dcons (CStep.guard rfl rfl rfl (fun hg0 => PStep.c (p_loadB (y := .val _) rfl wDia5_agg3 (Sees.gv' rfl hg0) rfl rfl rfl rfl)) rfl rfl rfl rfl rfl) ?_
          refine dcons (CStep.guard rfl rfl rfl (fun hg0 => PStep.c (p_move (y := .val _) rfl (Sees.of rfl) rfl)) rfl rfl rfl rfl rfl) ?_
          refine dcons (CStep.guard rfl rfl rfl (fun hg0 => by have hp0 := hg0; (try simp only [bs] at hp0); exact c_call rfl wDia5_isf25 ⟨_, _, rfl, (Sees.gv' rfl hg0), rfl, ⟨_, _, rfl, (Sees.gv' rfl hg0), rfl, rfl⟩⟩ ((bits_spec m i (by omega)).spec false)) rfl rfl rfl rfl rfl) ?_
          refine dcons (CStep.guard rfl rfl rfl (fun hg0 => c_call rfl wDia5_isf24 ⟨_, _, rfl, (Sees.gv' rfl hg0), rfl, ⟨_, _, rfl, (Sees.gv' rfl hg0), rfl, rfl⟩⟩ (all_spec (Sp.bits m i) ls' (by rw [Sp.bits_length]; exact Sp.check_good hto2.2.1 rfl))) rfl rfl rfl rfl rfl) ?_
          refine dcons (CStep.guard rfl rfl rfl (fun hg0 => PStep.c (p_eqlB rfl wDia5_boo4 (Sees.gv' rfl hg0) (Sees.gv' rfl hg0))) rfl rfl rfl rfl rfl) ?_
          refine dcons (CStep.step (PStep.c (p_and rfl (Sees.of rfl) (fun h => Sees.gv' rfl (beq_of_eq h)) (Sees.of rfl))) rfl rfl rfl rfl) ?_
          refine dcons (CStep.step (PStep.c (p_assign (y := .val _) rfl (Sees.of rfl) rfl)) rfl rfl rfl rfl) ?_
          refine dnil (by kernel_rfl) ?_
          refine f_nil ?_
          show AWs _ _ _ _ _
          refine f_region ?_
          refine scons (CStep.step (PStep.c (p_move (y := .val _) rfl (Sees.of rfl) rfl)) rfl rfl rfl rfl) ?_
          refine scons (CStep.step (PStep.c (p_add rfl (Sees.of rfl) (Sees.of rfl) (by omega))) rfl rfl rfl rfl) ?_
          refine scons (CStep.step (PStep.c (p_assign (y := .val _) rfl (Sees.of rfl) rfl)) rfl rfl rfl rfl) ?_
          refine snil ?_
          refine f_back ⟨i + 1, ?_, ?_, le_ofL ⟨rfl, (by rw [Sp.take_getD (Sp.dtab (fun a => Sp.all a ls) m) i false (by omega), Sp.take_getD (Sp.dtab (fun a => Sp.all a ls') m) i false (by omega), Sp.dtab_at _ _ _ (by omega), Sp.dtab_at _ _ _ (by omega), Sp.app_eq (by rw [List.length_take, List.length_take, hdl, hdl2])]; rfl), rfl, rfl, rfl, rfl, rfl, rfl, rfl, rfl, rfl, trivial⟩ rfl⟩
          · omega
          · omega
        · intro hc3
          try simp only [bs] at hc3
          refine f_exit ?_
          show AWs _ _ _ _ _
          refine f_seq ?_
          refine f_region ?_
          refine scons (CStep.step (PStep.c (p_loadBS rfl wDia5_agg41 wDia5_siz41 (Sees.of rfl) rfl rfl rfl)) rfl rfl rfl rfl) ?_
          refine scons (CStep.step (PStep.c (p_loadBS rfl wDia5_agg41 wDia5_siz41 (Sees.of rfl) rfl rfl rfl)) rfl rfl rfl rfl) ?_
          refine scons (CStep.step (c_call rfl wDia5_isf26 ⟨_, _, rfl, (Sees.of rfl), rfl, ⟨_, _, rfl, (Sees.of rfl), rfl, rfl⟩⟩ (DiaSame_spec _ _ _ _)) rfl rfl rfl rfl) ?_
          refine scons (CStep.step (PStep.c (p_move (y := .val _) rfl (Sees.of rfl) rfl)) rfl rfl rfl rfl) ?_
          refine scons (CStep.step (PStep.c (p_eqlB rfl wDia5_boo4 (Sees.of rfl) (Sees.of rfl))) rfl rfl rfl rfl) ?_
          refine scons (CStep.step (PStep.c (p_move (y := .val _) rfl (Sees.of rfl) rfl)) rfl rfl rfl rfl) ?_
          refine scons (CStep.guard rfl rfl rfl (fun hg0 => c_call rfl wDia5_isf28 rfl (diaSure_spec)) rfl rfl rfl rfl rfl) ?_
          refine scons (CStep.step (PStep.c (p_and rfl (Sees.of rfl) (fun h => Sees.gv' rfl (beq_of_eq h)) (Sees.of rfl))) rfl rfl rfl rfl) ?_
          refine scons (CStep.step (PStep.c (p_move (y := .val _) rfl (Sees.of rfl) rfl)) rfl rfl rfl rfl) ?_
          refine scons (CStep.guard rfl rfl rfl (fun hg0 => PStep.c (p_fieldRef rfl wDia5_fld24_0 wDia5_siz3 rfl (Sees.of rfl) rfl)) rfl rfl rfl rfl rfl) ?_
          refine scons (CStep.guard rfl rfl rfl (fun hg0 => PStep.c (p_loadB (y := .val _) rfl wDia5_agg3 (Sees.gv' rfl hg0) rfl rfl rfl rfl)) rfl rfl rfl rfl rfl) ?_
          refine scons (CStep.guard rfl rfl rfl (fun hg0 => PStep.c (p_loadBS rfl wDia5_agg41 wDia5_siz41 (Sees.of rfl) rfl rfl rfl)) rfl rfl rfl rfl rfl) ?_
          refine scons (CStep.guard rfl rfl rfl (fun hg0 => c_call rfl wDia5_isf29 ⟨_, _, rfl, (Sees.gv' rfl hg0), rfl, ⟨_, _, rfl, (Sees.gv' rfl hg0), rfl, rfl⟩⟩ (diaCheckR_spec m _ _)) rfl rfl rfl rfl rfl) ?_
          refine scons (CStep.guard rfl rfl rfl (fun hg0 => PStep.c (p_field rfl wDia5_fld28_0 wDia5_agg3 (Sees.gv' rfl hg0) rfl)) rfl rfl rfl rfl rfl) ?_
          refine scons (CStep.guard rfl rfl rfl (fun hg0 => PStep.c (p_eql rfl (Sees.gv' rfl hg0) (Sees.of rfl))) rfl rfl rfl rfl rfl) ?_
          refine scons (CStep.step (PStep.c (p_and rfl (Sees.of rfl) (fun h => Sees.gv' rfl (beq_of_eq h)) (Sees.of rfl))) rfl rfl rfl rfl) ?_
          refine scons (CStep.step (PStep.c (p_assign (y := .val _) rfl (Sees.of rfl) rfl)) rfl rfl rfl rfl) ?_
          refine snil ?_
          refine f_ret ?_
          refine ends_ret (res_eq (res1 rfl (res_tmp rfl (Sees.of rfl))) ?_)
          obtain rfl : i = 2 ^ m := by omega
          rw [List.take_of_length_le (by omega), List.take_of_length_le (by omega), Sp.of_good ht1 hm8, Sp.of_good ht2 hm8, Sp.built_ok _ hm8]
          simp only [Sp.grow_inj hdl hdl2]
          simp

theorem Not_spec (n : Int) (l : List Sp.Cho) (r : Int) :
    Spec Go.Proofs.Try.prog 35 [iv n, .val (dia l r)] (two (dia (Sp.diaNot n l r).1 (Sp.diaNot n l r).2.1) (fault (Sp.diaNot n l r).2.2.1 (Sp.diaNot n l r).2.2.2)) := by
  refine spec_of' Go.Proofs.Try.func35 rfl Go.Proofs.Try.ntmps35 rfl ?_
  refine f_seq ?_
  refine f_region ?_
  refine scons (r_box (ob := 10003) rfl (Sees.of rfl) rfl rfl rfl rfl rfl rfl) ?_
  refine scons (r_alloc (ob := 10004) rfl wDia5_zer41 rfl rfl rfl rfl rfl rfl) ?_
  refine scons (r_alloc (ob := 10005) rfl wDia5_zer28 rfl rfl rfl rfl rfl rfl) ?_
  refine snil ?_
  refine f_seq ?_
  refine f_seq ?_
  refine f_region ?_
  refine scons (CStep.step (PStep.c (p_move (y := .val _) rfl (Sees.of rfl) rfl)) rfl rfl rfl rfl) ?_
  refine scons (CStep.step (PStep.c (p_loadBS rfl wDia5_agg41 wDia5_siz41 (Sees.of rfl) rfl rfl rfl)) rfl rfl rfl rfl) ?_
  refine scons (CStep.step (c_call rfl wDia5_isf66 ⟨_, _, rfl, (Sees.of rfl), rfl, ⟨_, _, rfl, (Sees.of rfl), rfl, rfl⟩⟩ (diaCheck_spec n l r)) rfl rfl rfl rfl) ?_
  refine scons (r_alloc (ob := 10006) rfl wDia5_zer28 rfl rfl rfl rfl rfl rfl) ?_
  refine scons (r_storeS rfl wDia5_siz28 rfl rfl rfl (Sees.of rfl) rfl (Sees.of rfl) rfl rfl rfl rfl) ?_
  refine snil ?_
  refine f_seq ?_
  refine f_region ?_
  refine scons (CStep.step (PStep.c (p_fieldRef rfl wDia5_fld28_0 wDia5_siz3 rfl (Sees.of rfl) rfl)) rfl rfl rfl rfl) ?_
  refine scons (CStep.step (PStep.c (p_loadB (y := .val _) rfl wDia5_agg3 (Sees.of rfl) rfl rfl rfl rfl)) rfl rfl rfl rfl) ?_
  refine scons (CStep.step (PStep.c (p_neq rfl (Sees.of rfl) (Sees.of rfl))) rfl rfl rfl rfl) ?_
  refine snil ?_
  refine f_cond rfl ?_ ?_
  · intro hc1
    try simp only [bs] at hc1
    refine f_seq ?_
    refine f_draw wDia5_mix (by kernel_rfl) ?_
    refine dcons (CStep.step (PStep.c (p_build rfl wDia5_plc41 wDia5_zer41 (by decide) wDia5_zch41 rfl rfl)) rfl rfl rfl rfl) ?_
    refine dcons (CStep.step (PStep.c (p_loadBS rfl wDia5_agg28 wDia5_siz28 (Sees.of rfl) rfl rfl rfl)) rfl rfl rfl rfl) ?_
    refine dcons (r_storeS rfl wDia5_siz41 rfl rfl rfl (Sees.of rfl) rfl (Sees.of rfl) rfl rfl rfl rfl) ?_
    refine dcons (r_storeS rfl wDia5_siz28 rfl rfl rfl (Sees.of rfl) rfl (Sees.of rfl) rfl rfl rfl rfl) ?_
    refine dnil (by kernel_rfl) ?_
    refine f_ret ?_
    refine ends_ret (res_eq (res2 rfl (res_cell (by rfl) rfl rfl wDia5_agg41 wDia5_siz41 rfl rfl) (res_cell (by rfl) rfl rfl wDia5_agg28 wDia5_siz28 rfl rfl)) ?_)
    rw [Sp.diaNot, if_pos hc1]
    all_goals rfl
  · intro hc1
    try simp only [bs] at hc1
    obtain ⟨m, rfl⟩ : ∃ m : Nat, n = (m : Int) := ⟨n.toNat, by have := Sp.dia_ok hc1; omega⟩
    have hok := Sp.dia_ok hc1
    have hp16 := Sp.pow16 (n := m) (by omega)
    refine f_skip ?_
    refine f_seq ?_
    refine f_region ?_
    refine scons (CStep.step (PStep.c (p_move (y := .val _) rfl (Sees.of rfl) rfl)) rfl rfl rfl rfl) ?_
    refine scons (CStep.step (PStep.c (p_loadBS rfl wDia5_agg41 wDia5_siz41 (Sees.of rfl) rfl rfl rfl)) rfl rfl rfl rfl) ?_
    refine scons (r_callS (q := false) (ob := 10019) 0 rfl wDia5_isf67 (tableOf_spec m l r hc1) (sa_cons (sh_of (Sees.of rfl) rfl) (sa_cons (sh_of (Sees.of rfl) rfl) (sa_nil))) (.inl rfl) rfl rfl rfl rfl rfl) ?_
    refine scons (CStep.step (PStep.c (p_assign (y := .row _ _) rfl (Sees.of rfl) rfl)) rfl rfl rfl rfl) ?_
    refine snil ?_
    refine f_seq ?_
    refine f_seq ?_
    refine f_region ?_
    refine scons (CStep.step (PStep.c (p_move (y := .row _ _) rfl (Sees.of rfl) rfl)) rfl rfl rfl rfl) ?_
    refine scons (CStep.step (PStep.c (p_lenR rfl wDia5_isl91 (Sees.of rfl) rfl)) rfl rfl rfl rfl) ?_
    refine scons (CStep.step (PStep.c (p_move (y := .val _) rfl (Sees.of rfl) rfl)) rfl rfl rfl rfl) ?_
    refine snil ?_
    refine f_block ?_
    refine f_loop (α := Nat) (fun i => i ≤ 2 ^ m) (fun i => [(22, iv i), (21, iv (2 ^ m : Nat)), (7, .row 10019 0), (10019, .arr 0 5 1 1 dby 0 (Sp.fillTo (2 ^ m) (fun k : Nat => Sp.b01 (Sp.dvalue l r (Sp.bits m k))) (fun k : Nat => Sp.b01 (!Sp.dvalue l r (Sp.bits m k))) i)), (4, .ref 10004 0 0), (5, .ref 10005 0 0), (10004, .box 0 (.ccons (.emp) (.ccons (iv 0) .cnil))), (10005, .box 0 (.ccons (iv 0) (.ccons (iv 0) .cnil)))]) (fun i => 2 ^ m - i) 0 ?_ ?_ ?_
    · exact Nat.zero_le _
    · exact le_ofL ⟨rfl, (by rw [← Sp.btab_len (Sp.dvalue l r) m]; rfl), rfl, (by rw [Sp.fill_zero, ← Sp.btab_map]; rfl), rfl, rfl, rfl, rfl, trivial⟩ rfl
    · rintro i hi
      have hi : i ≤ 2 ^ m := hi
      have hfl := Sp.fill_len (2 ^ m) (fun k : Nat => Sp.b01 (Sp.dvalue l r (Sp.bits m k))) (fun k : Nat => Sp.b01 (!Sp.dvalue l r (Sp.bits m k))) i
      refine f_seq ?_
      refine f_region ?_
      refine scons (CStep.step (PStep.c (p_lss rfl (Sees.of rfl) (Sees.of rfl))) rfl rfl rfl rfl) ?_
      refine snil ?_
      refine f_seq ?_
      refine f_cond rfl ?_ ?_
      · intro hc2
        try simp only [bs] at hc2
        refine f_skip ?_
        refine f_seq ?_
        refine f_block ?_
        refine f_seq ?_
        refine f_region ?_
        refine scons (CStep.step (PStep.c (p_move (y := .val _) rfl (Sees.of rfl) rfl)) rfl rfl rfl rfl) ?_
        refine scons (CStep.step (PStep.c (p_assign (y := .val _) rfl (Sees.of rfl) rfl)) rfl rfl rfl rfl) ?_
        refine snil ?_
        refine f_region ?_
        refine scons (CStep.step (PStep.c (p_move (y := .row _ _) rfl (Sees.of rfl) rfl)) rfl rfl rfl rfl) ?_
        refine scons (CStep.step (PStep.c (p_move (y := .val _) rfl (Sees.of rfl) rfl)) rfl rfl rfl rfl) ?_
        refine scons (CStep.step (PStep.c (p_move (y := .row _ _) rfl (Sees.of rfl) rfl)) rfl rfl rfl rfl) ?_
        refine scons (CStep.step (PStep.c (p_move (y := .val _) rfl (Sees.of rfl) rfl)) rfl rfl rfl rfl) ?_
        refine scons (CStep.step (PStep.c ((by first | exact p_indexR rfl wDia5_isl91 wDia5_siz5 (Sees.of rfl) rfl (Sees.of rfl) (by rw [hfl]; omega) | exact p_indexRZ rfl wDia5_isl91 wDia5_siz5 (Sees.of rfl) rfl (Sees.of rfl) (by omega) (by rw [hfl]; omega)))) rfl rfl rfl rfl) ?_
        refine scons (CStep.step (PStep.c (p_loadE rfl wDia5_agg5 (Sees.of rfl) rfl (by rw [hfl]; omega) (fun _ => rfl))) rfl rfl rfl rfl) ?_
        refine scons (CStep.step (PStep.c (p_subW rfl (Sees.of rfl) (Sees.of rfl))) rfl rfl rfl rfl) ?_
        refine scons (CStep.step (PStep.c ((by first | exact p_indexR rfl wDia5_isl91 wDia5_siz5 (Sees.of rfl) rfl (Sees.of rfl) (by rw [hfl]; omega) | exact p_indexRZ rfl wDia5_isl91 wDia5_siz5 (Sees.of rfl) rfl (Sees.of rfl) (by omega) (by rw [hfl]; omega)))) rfl rfl rfl rfl) ?_
        refine scons (r_storeE rfl wDia5_siz5 rfl rfl rfl (Sees.of rfl) rfl (by rw [hfl]; omega) (Sees.of rfl) rfl) ?_
        refine snil ?_
        refine f_nil ?_
        show AWs _ _ _ _ _
        refine f_region ?_
        refine scons (CStep.step (PStep.c (p_add rfl (Sees.of rfl) (Sees.of rfl) (by omega))) rfl rfl rfl rfl) ?_
        refine scons (CStep.step (PStep.c (p_move (y := .val _) rfl (Sees.of rfl) rfl)) rfl rfl rfl rfl) ?_
        refine snil ?_
        refine f_back ⟨i + 1, ?_, ?_, le_ofL ⟨rfl, rfl, rfl, (by rw [← Sp.fill_step (z := 0) (h := fun x => IntKind.u8.wrap (1 - x)) (by omega) (Sp.wrap_not _)]; rfl), rfl, rfl, rfl, rfl, trivial⟩ rfl⟩
        · omega
        · omega
      · intro hc2
        try simp only [bs] at hc2
        refine f_exit ?_
        show AWs _ _ _ _ _
        refine f_seq ?_
        refine f_region ?_
        refine scons (CStep.step (PStep.c (p_move (y := .row _ _) rfl (Sees.of rfl) rfl)) rfl rfl rfl rfl) ?_
        refine scons (LStep.pre (g_freeze (k := 34) (o1 := 10019) rfl rfl rfl rfl) (CStep.step (c_call rfl wDia5_isf52 ⟨_, _, rfl, (Sees.of rfl), rfl, rfl⟩ (Built_spec2 m (Sp.dtab (fun a => !Sp.dvalue l r a) m) _ (by omega) (Sp.dtab_len _ _) (by rw [Sp.fill_end _ _ (by omega)]; exact (Sp.btab_map (fun a => !Sp.dvalue l r a) m).symm))) rfl rfl rfl rfl)) ?_
        refine scons (CStep.step (PStep.c (p_extract rfl (Sees.of rfl) rfl)) rfl rfl rfl rfl) ?_
        refine scons (CStep.step (PStep.c (p_extract rfl (Sees.of rfl) rfl)) rfl rfl rfl rfl) ?_
        refine scons (r_storeS rfl wDia5_siz41 rfl rfl rfl (Sees.of rfl) rfl (Sees.of rfl) rfl rfl rfl rfl) ?_
        refine scons (r_storeS rfl wDia5_siz28 rfl rfl rfl (Sees.of rfl) rfl (Sees.of rfl) rfl rfl rfl rfl) ?_
        refine snil ?_
        refine f_ret ?_
        refine ends_ret (res_eq (res2 rfl (res_cell (by rfl) rfl rfl wDia5_agg41 wDia5_siz41 rfl rfl) (res_cell (by rfl) rfl rfl wDia5_agg28 wDia5_siz28 rfl rfl)) ?_)
        rw [Sp.diaNot, if_neg (fun h => h hc1), Int.toNat_natCast]
        all_goals rfl

theorem DiaNots_spec (n : Int) (l : List Sp.Cho) (r : Int) :
    Spec Go.Proofs.Try.prog 8 [iv n, .val (dia l r)] (D.bool true) := by
  refine spec_of' Go.Proofs.Try.func8 rfl Go.Proofs.Try.ntmps8 rfl ?_
  refine f_seq ?_
  refine f_region ?_
  refine scons (r_box (ob := 10003) rfl (Sees.of rfl) rfl rfl rfl rfl rfl rfl) ?_
  refine scons (CStep.step (PStep.c (p_assign (y := .val _) rfl (Sees.of rfl) rfl)) rfl rfl rfl rfl) ?_
  refine snil ?_
  refine f_seq ?_
  refine f_seq ?_
  refine f_region ?_
  refine scons (CStep.step (PStep.c (p_move (y := .val _) rfl (Sees.of rfl) rfl)) rfl rfl rfl rfl) ?_
  refine scons (CStep.step (PStep.c (p_loadBS rfl wDia5_agg41 wDia5_siz41 (Sees.of rfl) rfl rfl rfl)) rfl rfl rfl rfl) ?_
  refine scons (CStep.step (c_call rfl wDia5_isf34 ⟨_, _, rfl, (Sees.of rfl), rfl, ⟨_, _, rfl, (Sees.of rfl), rfl, rfl⟩⟩ (large_spec n l r)) rfl rfl rfl rfl) ?_
  refine snil ?_
  refine f_cond rfl ?_ ?_
  · intro hc1
    try simp only [bs] at hc1
    refine f_seq ?_
    refine f_region ?_
    refine scons (CStep.step (PStep.c (p_assign (y := .val _) rfl (Sees.of rfl) rfl)) rfl rfl rfl rfl) ?_
    refine snil ?_
    refine f_ret ?_
    refine ends_ret (res_eq (res1 rfl (res_tmp rfl (Sees.of rfl))) ?_)
    rfl
  · intro hc1
    try simp only [bs] at hc1
    refine f_skip ?_
    refine f_seq ?_
    refine f_region ?_
    refine scons (CStep.step (PStep.c (p_move (y := .val _) rfl (Sees.of rfl) rfl)) rfl rfl rfl rfl) ?_
    refine scons (CStep.step (PStep.c (p_loadBS rfl wDia5_agg41 wDia5_siz41 (Sees.of rfl) rfl rfl rfl)) rfl rfl rfl rfl) ?_
    refine scons (CStep.step (c_call rfl wDia5_isf35 ⟨_, _, rfl, (Sees.of rfl), rfl, ⟨_, _, rfl, (Sees.of rfl), rfl, rfl⟩⟩ (Not_spec n l r)) rfl rfl rfl rfl) ?_
    refine scons (CStep.step (PStep.c (p_move (y := .val _) rfl (Sees.of rfl) rfl)) rfl rfl rfl rfl) ?_
    refine scons (CStep.step (PStep.c (p_extract rfl (Sees.of rfl) rfl)) rfl rfl rfl rfl) ?_
    refine scons (CStep.step (PStep.c (p_extract rfl (Sees.of rfl) rfl)) rfl rfl rfl rfl) ?_
    refine scons (r_alloc (ob := 10005) rfl wDia5_zer41 rfl rfl rfl rfl rfl rfl) ?_
    refine scons (r_alloc (ob := 10006) rfl wDia5_zer28 rfl rfl rfl rfl rfl rfl) ?_
    refine scons (r_storeS rfl wDia5_siz41 rfl rfl rfl (Sees.of rfl) rfl (Sees.of rfl) rfl rfl rfl rfl) ?_
    refine scons (r_storeS rfl wDia5_siz28 rfl rfl rfl (Sees.of rfl) rfl (Sees.of rfl) rfl rfl rfl rfl) ?_
    refine snil ?_
    refine f_seq ?_
    refine f_region ?_
    refine scons (CStep.step (PStep.c (p_move (y := .val _) rfl (Sees.of rfl) rfl)) rfl rfl rfl rfl) ?_
    refine scons (CStep.step (PStep.c (p_loadBS rfl wDia5_agg41 wDia5_siz41 (Sees.of rfl) rfl rfl rfl)) rfl rfl rfl rfl) ?_
    refine scons (CStep.step (c_call rfl wDia5_isf29 ⟨_, _, rfl, (Sees.of rfl), rfl, ⟨_, _, rfl, (Sees.of rfl), rfl, rfl⟩⟩ (diaCheckR_spec n l r)) rfl rfl rfl rfl) ?_
    refine scons (r_alloc (ob := 10007) rfl wDia5_zer28 rfl rfl rfl rfl rfl rfl) ?_
    refine scons (r_storeS rfl wDia5_siz28 rfl rfl rfl (Sees.of rfl) rfl (Sees.of rfl) rfl rfl rfl rfl) ?_
    refine snil ?_
    refine f_seq ?_
    refine f_seq ?_
    refine f_region ?_
    refine scons (CStep.step (PStep.c (p_fieldRef rfl wDia5_fld28_0 wDia5_siz3 rfl (Sees.of rfl) rfl)) rfl rfl rfl rfl) ?_
    refine scons (CStep.step (PStep.c (p_loadB (y := .val _) rfl wDia5_agg3 (Sees.of rfl) rfl rfl rfl rfl)) rfl rfl rfl rfl) ?_
    refine scons (CStep.step (PStep.c (p_neq rfl (Sees.of rfl) (Sees.of rfl))) rfl rfl rfl rfl) ?_
    refine snil ?_
    refine f_cond rfl ?_ ?_
    · intro hc2
      try simp only [bs] at hc2
      refine f_seq ?_
      refine f_region ?_
      refine scons (CStep.step (PStep.c (p_loadBS rfl wDia5_agg28 wDia5_siz28 (Sees.of rfl) rfl rfl rfl)) rfl rfl rfl rfl) ?_
      refine scons (CStep.step (PStep.c (p_loadBS rfl wDia5_agg28 wDia5_siz28 (Sees.of rfl) rfl rfl rfl)) rfl rfl rfl rfl) ?_
      refine scons (CStep.step (PStep.c (p_eqlS2 rfl wDia5_eq228 (Sees.of rfl) (Sees.of rfl))) rfl rfl rfl rfl) ?_
      refine scons (CStep.step (PStep.c (p_move (y := .val _) rfl (Sees.of rfl) rfl)) rfl rfl rfl rfl) ?_
      refine scons (CStep.guard rfl rfl rfl (fun hg0 => PStep.c (p_loadBS rfl wDia5_agg41 wDia5_siz41 (Sees.of rfl) rfl rfl rfl)) rfl rfl rfl rfl rfl) ?_
      refine scons (CStep.guard rfl rfl rfl (fun hg0 => c_call rfl wDia5_isf23 ⟨_, _, rfl, (Sees.gv' rfl hg0), rfl, rfl⟩ (DiaNone_spec _ _)) rfl rfl rfl rfl rfl) ?_
      refine scons (CStep.step (PStep.c (p_and rfl (Sees.of rfl) (fun h => Sees.gv' rfl (beq_of_eq h)) (Sees.of rfl))) rfl rfl rfl rfl) ?_
      refine scons (CStep.step (PStep.c (p_assign (y := .val _) rfl (Sees.of rfl) rfl)) rfl rfl rfl rfl) ?_
      refine snil ?_
      refine f_ret ?_
      refine ends_ret (res_eq (res1 rfl (res_tmp rfl (Sees.of rfl))) ?_)
      rw [show Sp.diaNot n l r = ([], 0, Sp.diaCheck n l r) by rw [Sp.diaNot, if_pos hc2]]
      simp
    · intro hc2
      try simp only [bs] at hc2
      obtain ⟨m, rfl⟩ : ∃ m : Nat, n = (m : Int) := ⟨n.toNat, by have := Sp.dia_ok hc2; omega⟩
      have hok := Sp.dia_ok hc2
      have hp16 := Sp.pow16 (n := m) (by omega)
      have hm8 : m ≤ 8 := by omega
      refine f_skip ?_
      refine f_seq ?_
      refine f_region ?_
      refine scons (CStep.step (PStep.c (p_move (y := .val _) rfl (Sees.of rfl) rfl)) rfl rfl rfl rfl) ?_
      refine scons (CStep.step (PStep.c (p_loadBS rfl wDia5_agg41 wDia5_siz41 (Sees.of rfl) rfl rfl rfl)) rfl rfl rfl rfl) ?_
      refine scons (r_callS (q := false) (ob := 10034) false rfl wDia5_isf36 (tableR_spec m l r hc2) (sa_cons (sh_of (Sees.of rfl) rfl) (sa_cons (sh_of (Sees.of rfl) rfl) (sa_nil))) (.inl rfl) rfl rfl rfl rfl rfl) ?_
      refine scons (CStep.step (PStep.c (p_assign (y := .row _ _) rfl (Sees.of rfl) rfl)) rfl rfl rfl rfl) ?_
      refine snil ?_
      refine f_seq ?_
      refine f_seq ?_
      refine f_region ?_
      refine scons (CStep.step (PStep.c (p_assign (y := .val _) rfl (Sees.of rfl) rfl)) rfl rfl rfl rfl) ?_
      refine snil ?_
      refine f_block ?_
      refine f_loop (α := Nat) (fun i => i ≤ 2 ^ m) (fun i => [(9, iv i), (8, .row 10034 0), (10034, .arr 0 4 1 1 D.bool false (Sp.fillTo (2 ^ m) (fun k : Nat => Sp.dvalue l r (Sp.bits m k)) (fun k : Nat => !Sp.dvalue l r (Sp.bits m k)) i)), (5, .ref 10005 0 0), (10005, .box 0 (.ccons (.val (chos (Sp.diaNot m l r).1)) (.ccons (iv (Sp.diaNot m l r).2.1) .cnil))), (6, .ref 10006 0 0), (10006, .box 0 (.ccons (iv (Sp.diaNot m l r).2.2.1) (.ccons (iv (Sp.diaNot m l r).2.2.2) .cnil))), (7, .ref 10007 0 0), (10007, .box 0 (.ccons (iv (Sp.diaCheck m l r).1) (.ccons (iv (Sp.diaCheck m l r).2) .cnil))), (4, bv false)]) (fun i => 2 ^ m - i) 0 ?_ ?_ ?_
      · exact Nat.zero_le _
      · exact le_ofL ⟨rfl, rfl, (by rw [Sp.fill_zero]; rfl), rfl, rfl, rfl, rfl, rfl, rfl, rfl, trivial⟩ rfl
      · rintro i hi
        have hi : i ≤ 2 ^ m := hi
        have hfl := Sp.fill_len (2 ^ m) (fun k : Nat => Sp.dvalue l r (Sp.bits m k)) (fun k : Nat => !Sp.dvalue l r (Sp.bits m k)) i
        refine f_seq ?_
        refine f_seq ?_
        refine f_region ?_
        refine scons (CStep.step (PStep.c (p_move (y := .val _) rfl (Sees.of rfl) rfl)) rfl rfl rfl rfl) ?_
        refine scons (CStep.step (PStep.c (p_move (y := .row _ _) rfl (Sees.of rfl) rfl)) rfl rfl rfl rfl) ?_
        refine scons (CStep.step (PStep.c (p_lenR rfl wDia5_isl45 (Sees.of rfl) rfl)) rfl rfl rfl rfl) ?_
        refine scons (CStep.step (PStep.c (p_lss rfl (Sees.of rfl) (Sees.of rfl))) rfl rfl rfl rfl) ?_
        refine snil ?_
        refine f_cond rfl ?_ ?_
        · intro hc3
          try simp only [bs] at hc3
          refine f_skip ?_
          refine f_seq ?_
          refine f_block ?_
          refine f_region ?_
          refine scons (CStep.step (PStep.c (p_move (y := .row _ _) rfl (Sees.of rfl) rfl)) rfl rfl rfl rfl) ?_
          refine scons (CStep.step (PStep.c (p_move (y := .val _) rfl (Sees.of rfl) rfl)) rfl rfl rfl rfl) ?_
          refine scons (CStep.step (PStep.c (p_move (y := .row _ _) rfl (Sees.of rfl) rfl)) rfl rfl rfl rfl) ?_
          refine scons (CStep.step (PStep.c (p_move (y := .val _) rfl (Sees.of rfl) rfl)) rfl rfl rfl rfl) ?_
          refine scons (CStep.step (PStep.c ((by first | exact p_indexR rfl wDia5_isl45 wDia5_siz4 (Sees.of rfl) rfl (Sees.of rfl) (by rw [hfl]; omega) | exact p_indexRZ rfl wDia5_isl45 wDia5_siz4 (Sees.of rfl) rfl (Sees.of rfl) (by omega) (by rw [hfl]; omega)))) rfl rfl rfl rfl) ?_
          refine scons (CStep.step (PStep.c (p_loadE rfl wDia5_agg4 (Sees.of rfl) rfl (by rw [hfl]; omega) (fun _ => rfl))) rfl rfl rfl rfl) ?_
          refine scons (CStep.step (PStep.c (p_not rfl (Sees.of rfl))) rfl rfl rfl rfl) ?_
          refine scons (CStep.step (PStep.c ((by first | exact p_indexR rfl wDia5_isl45 wDia5_siz4 (Sees.of rfl) rfl (Sees.of rfl) (by rw [hfl]; omega) | exact p_indexRZ rfl wDia5_isl45 wDia5_siz4 (Sees.of rfl) rfl (Sees.of rfl) (by omega) (by rw [hfl]; omega)))) rfl rfl rfl rfl) ?_
          refine scons (r_storeE rfl wDia5_siz4 rfl rfl rfl (Sees.of rfl) rfl (by rw [hfl]; omega) (Sees.of rfl) rfl) ?_
          refine snil ?_
          refine f_nil ?_
          show AWs _ _ _ _ _
          refine f_region ?_
          refine scons (CStep.step (PStep.c (p_move (y := .val _) rfl (Sees.of rfl) rfl)) rfl rfl rfl rfl) ?_
          refine scons (CStep.step (PStep.c (p_add rfl (Sees.of rfl) (Sees.of rfl) (by omega))) rfl rfl rfl rfl) ?_
          refine scons (CStep.step (PStep.c (p_assign (y := .val _) rfl (Sees.of rfl) rfl)) rfl rfl rfl rfl) ?_
          refine snil ?_
          refine f_back ⟨i + 1, ?_, ?_, le_ofL ⟨rfl, rfl, (by rw [← Sp.fill_step (z := false) (h := fun x => !x) (by omega) rfl]; rfl), rfl, rfl, rfl, rfl, rfl, rfl, rfl, trivial⟩ rfl⟩
          · omega
          · omega
        · intro hc3
          try simp only [bs] at hc3
          refine f_exit ?_
          show AWs _ _ _ _ _
          refine f_seq ?_
          refine f_le (GLe.le (g_freeze (k := 8) (o1 := 10034) rfl rfl rfl rfl)) ?_ (by simp)
          refine f_draw wDia5_mix (by kernel_rfl) ?_
          refine dcons (CStep.step (PStep.c (p_loadBS rfl wDia5_agg28 wDia5_siz28 (Sees.of rfl) rfl rfl rfl)) rfl rfl rfl rfl) ?_
          refine dcons (CStep.step (PStep.c (p_loadBS rfl wDia5_agg28 wDia5_siz28 (Sees.of rfl) rfl rfl rfl)) rfl rfl rfl rfl) ?_
          refine dcons (CStep.step (PStep.c (p_eqlS2 rfl wDia5_eq228 (Sees.of rfl) (Sees.of rfl))) rfl rfl rfl rfl) ?_
          refine dcons (CStep.step (PStep.c (p_move (y := .val _) rfl (Sees.of rfl) rfl)) rfl rfl rfl rfl) ?_
          refine dcons (CStep.guard rfl rfl rfl (fun hg0 => PStep.c (p_loadBS rfl wDia5_agg41 wDia5_siz41 (Sees.of rfl) rfl rfl rfl)) rfl rfl rfl rfl rfl) ?_
          refine dcons (CStep.guard rfl rfl rfl (fun hg0 => PStep.c (p_move (y := .val _) rfl (Sees.of rfl) rfl)) rfl rfl rfl rfl rfl) ?_
          refine dcons (CStep.guard rfl rfl rfl (fun hg0 => by have hp0 := hg0; (try simp only [bs] at hp0); exact c_call rfl wDia5_isf27 ⟨_, _, rfl, (Sees.gv' rfl hg0), rfl, rfl⟩ (DiaOf_spec m (Sp.fillTo (2 ^ m) (fun k : Nat => Sp.dvalue l r (Sp.bits m k)) (fun k : Nat => !Sp.dvalue l r (Sp.bits m k)) i) (by omega) (Sp.fill_len _ _ _ _))) rfl rfl rfl rfl rfl) ?_
          refine dcons (CStep.guard rfl rfl rfl (fun hg0 => c_call rfl wDia5_isf26 ⟨_, _, rfl, (Sees.gv' rfl hg0), rfl, ⟨_, _, rfl, (Sees.gv' rfl hg0), rfl, rfl⟩⟩ (DiaSame_spec _ _ _ _)) rfl rfl rfl rfl rfl) ?_
          refine dcons (CStep.step (PStep.c (p_and rfl (Sees.of rfl) (fun h => Sees.gv' rfl (beq_of_eq h)) (Sees.of rfl))) rfl rfl rfl rfl) ?_
          refine dcons (CStep.step (PStep.c (p_move (y := .val _) rfl (Sees.of rfl) rfl)) rfl rfl rfl rfl) ?_
          refine dcons (CStep.guard rfl rfl rfl (fun hg0 => c_call rfl wDia5_isf28 rfl (diaSure_spec)) rfl rfl rfl rfl rfl) ?_
          refine dcons (CStep.step (PStep.c (p_and rfl (Sees.of rfl) (fun h => Sees.gv' rfl (beq_of_eq h)) (Sees.of rfl))) rfl rfl rfl rfl) ?_
          refine dcons (CStep.step (PStep.c (p_assign (y := .val _) rfl (Sees.of rfl) rfl)) rfl rfl rfl rfl) ?_
          refine dnil (by kernel_rfl) ?_
          refine f_ret ?_
          refine ends_ret (res_eq (res1 rfl (res_tmp rfl (Sees.of rfl))) ?_)
          have e : Sp.diaNot m l r = ((Sp.grow m [] (Sp.dtab (fun a => !Sp.dvalue l r a) m) 1).1, (Sp.grow m [] (Sp.dtab (fun a => !Sp.dvalue l r a) m) 1).2, 0, 0) := by rw [Sp.diaNot, if_neg (fun h => h hc2), Int.toNat_natCast, Sp.built_few hm8]
          have e2 := Sp.dia_zero hc2
          have e3 : Sp.fillTo (2 ^ m) (fun k : Nat => Sp.dvalue l r (Sp.bits m k)) (fun k : Nat => !Sp.dvalue l r (Sp.bits m k)) i = Sp.dtab (fun a => !Sp.dvalue l r a) m := Sp.fill_end _ _ (by omega)
          rw [e, e2, e3]
          simp

end Go.Um
