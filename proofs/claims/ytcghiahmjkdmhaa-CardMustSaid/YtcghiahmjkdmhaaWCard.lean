/- Walks of Go functions of this seat, each by its contract. No condition beyond what each theorem says. -/
import Derived.Test.YtcghiahmjkdmhaaFlow
import Derived.Test.YtcghiahmjkdmhaaWSat
import Derived.Test.YtcghiahmjkdmhaaWProp
import Derived.Test.YtcghiahmjkdmhaaSp3
import Derived.Test.YtcghiahmjkdmhaaProg
import Derived.KernelRfl
set_option maxRecDepth 4000
namespace Go.Um
open Go Go.RowKit

theorem wCard_agg24 : IsAgg Go.Proofs.Try.prog 24 true := by unfold IsAgg; kernel_rfl
theorem wCard_agg26 : IsAgg Go.Proofs.Try.prog 26 false := by unfold IsAgg; kernel_rfl
theorem wCard_agg3 : IsAgg Go.Proofs.Try.prog 3 false := by unfold IsAgg; kernel_rfl
theorem wCard_agg38 : IsAgg Go.Proofs.Try.prog 38 true := by unfold IsAgg; kernel_rfl
theorem wCard_agg4 : IsAgg Go.Proofs.Try.prog 4 false := by unfold IsAgg; kernel_rfl
theorem wCard_agg50 : IsAgg Go.Proofs.Try.prog 50 true := by unfold IsAgg; kernel_rfl
theorem wCard_byt26 : Bytes Go.Proofs.Try.prog 26 24 := by unfold Bytes; kernel_rfl
theorem wCard_byt3 : Bytes Go.Proofs.Try.prog 3 8 := by unfold Bytes; kernel_rfl
theorem wCard_fld24_0 : IsField Go.Proofs.Try.prog 24 0 0 3 := by unfold IsField; kernel_rfl
theorem wCard_fld50_0 : IsField Go.Proofs.Try.prog 50 0 0 26 := by unfold IsField; kernel_rfl
theorem wCard_fld50_1 : IsField Go.Proofs.Try.prog 50 1 1 26 := by unfold IsField; kernel_rfl
theorem wCard_isf53 : IsFn Go.Proofs.Try.prog 53 := by unfold IsFn; kernel_rfl
theorem wCard_isf54 : IsFn Go.Proofs.Try.prog 54 := by unfold IsFn; kernel_rfl
theorem wCard_isf55 : IsFn Go.Proofs.Try.prog 55 := by unfold IsFn; kernel_rfl
theorem wCard_isf59 : IsFn Go.Proofs.Try.prog 59 := by unfold IsFn; kernel_rfl
theorem wCard_isf62 : IsFn Go.Proofs.Try.prog 62 := by unfold IsFn; kernel_rfl
theorem wCard_isf75 : IsFn Go.Proofs.Try.prog 75 := by unfold IsFn; kernel_rfl
theorem wCard_isl26 : IsSlice Go.Proofs.Try.prog 26 3 := by unfold IsSlice; kernel_rfl
theorem wCard_isl36 : IsSlice Go.Proofs.Try.prog 36 26 := by unfold IsSlice; kernel_rfl
theorem wCard_isl46 : IsSlice Go.Proofs.Try.prog 46 4 := by unfold IsSlice; kernel_rfl
theorem wCard_mix : (Go.Proofs.Try.prog).follows .mixedOrders = true := by kernel_rfl
theorem wCard_plc24 : Places Go.Proofs.Try.prog 24 [(0, 1), (1, 1)] := by unfold Places; kernel_rfl
theorem wCard_plc38 : Places Go.Proofs.Try.prog 38 [(0, 1), (1, 1)] := by unfold Places; kernel_rfl
theorem wCard_siz24 : Size Go.Proofs.Try.prog 24 2 := by unfold Size; kernel_rfl
theorem wCard_siz26 : Size Go.Proofs.Try.prog 26 1 := by unfold Size; kernel_rfl
theorem wCard_siz3 : Size Go.Proofs.Try.prog 3 1 := by unfold Size; kernel_rfl
theorem wCard_siz38 : Size Go.Proofs.Try.prog 38 2 := by unfold Size; kernel_rfl
theorem wCard_siz4 : Size Go.Proofs.Try.prog 4 1 := by unfold Size; kernel_rfl
theorem wCard_siz50 : Size Go.Proofs.Try.prog 50 3 := by unfold Size; kernel_rfl
def wCard_z24 : D := .cons (.int .i64 0) (.cons (.int .i64 0) (.nil))
theorem wCard_zch24 : ∀ (ok : Nat → Prop) (w : World), R Go.Proofs.Try.prog wCard_z24 ok w (Value.cells (.agg #[(.int .i64 0), (.int .i64 0)])).toList := fun _ _ => z_int (z_int (z_nil))
def wCard_z38 : D := .cons (.int .i64 0) (.cons (intss []) (.nil))
theorem wCard_zch38 : ∀ (ok : Nat → Prop) (w : World), R Go.Proofs.Try.prog wCard_z38 ok w (Value.cells (.agg #[(.int .i64 0), (.slice none 0 0)])).toList := fun _ _ => z_int (z_list (z_nil))
theorem wCard_zer24 : Zero Go.Proofs.Try.prog 24 (.agg #[(.int .i64 0), (.int .i64 0)]) := by unfold Zero; kernel_rfl
theorem wCard_zer26 : Zero Go.Proofs.Try.prog 26 (.slice none 0 0) := by unfold Zero; kernel_rfl
theorem wCard_zer3 : Zero Go.Proofs.Try.prog 3 (.int .i64 0) := by unfold Zero; kernel_rfl
theorem wCard_zer38 : Zero Go.Proofs.Try.prog 38 (.agg #[(.int .i64 0), (.slice none 0 0)]) := by unfold Zero; kernel_rfl
theorem wCard_zer50 : Zero Go.Proofs.Try.prog 50 (.agg #[(.slice none 0 0), (.slice none 0 0), (.int .i64 0)]) := by unfold Zero; kernel_rfl

theorem cardCheck_spec (n : Int) (l : List Int) :
    Spec Go.Proofs.Try.prog 62 [iv n, .val (ints l)] (fault (Sp.cardWrong n l).1 (Sp.cardWrong n l).2) := by
  refine spec_of' Go.Proofs.Try.func62 rfl Go.Proofs.Try.ntmps62 rfl ?_
  refine f_seq ?_
  refine f_region ?_
  refine scons (r_alloc (ob := 10004) rfl wCard_zer24 rfl rfl rfl rfl rfl rfl) ?_
  refine snil ?_
  refine f_seq ?_
  refine f_block ?_
  refine f_seq ?_
  refine f_region ?_
  refine scons (CStep.step (PStep.c (p_move (y := .val _) rfl (Sees.of rfl) rfl)) rfl rfl rfl rfl) ?_
  refine scons (CStep.step (PStep.c (p_lss rfl (Sees.of rfl) (Sees.of rfl))) rfl rfl rfl rfl) ?_
  refine scons (CStep.step (PStep.c (p_move (y := .val _) rfl (Sees.of rfl) rfl)) rfl rfl rfl rfl) ?_
  refine scons (CStep.guard rfl rfl rfl (fun hg0 => PStep.c (p_move (y := .val _) rfl (Sees.of rfl) rfl)) rfl rfl rfl rfl rfl) ?_
  refine scons (CStep.guard rfl rfl rfl (fun hg0 => PStep.c (p_gtr rfl (Sees.gv' rfl hg0) (Sees.of rfl))) rfl rfl rfl rfl rfl) ?_
  refine scons (CStep.step (PStep.c (p_or rfl (Sees.of rfl) (Sees.of rfl) (fun h => Sees.gv' rfl (beq_of_eq h)))) rfl rfl rfl rfl) ?_
  refine scons (CStep.step (PStep.c (p_assign (y := .val _) rfl (Sees.of rfl) rfl)) rfl rfl rfl rfl) ?_
  refine snil ?_
  refine f_cond rfl ?_ ?_
  · intro hc1
    try simp only [bs] at hc1
    refine f_seq ?_
    refine f_region ?_
    refine scons (CStep.step (PStep.c (p_build rfl wCard_plc24 wCard_zer24 (by decide) wCard_zch24 ⟨_, _, _, rfl, rfl, rfl, (Sees.of rfl), rfl⟩ rfl)) rfl rfl rfl rfl) ?_
    refine scons (r_storeS rfl wCard_siz24 rfl rfl rfl (Sees.of rfl) rfl (Sees.of rfl) rfl rfl rfl rfl) ?_
    refine snil ?_
    refine f_ret ?_
    refine ends_ret (res_eq (res1 rfl (res_cell (by rfl) rfl rfl wCard_agg24 wCard_siz24 rfl rfl)) ?_)
    rw [Sp.cardWrong, if_pos (by omega)]
    all_goals rfl
  · intro hc1
    try simp only [bs] at hc1
    refine f_seq ?_
    refine f_region ?_
    refine scons (CStep.step (PStep.c (p_move (y := .val _) rfl (Sees.of rfl) rfl)) rfl rfl rfl rfl) ?_
    refine scons (CStep.step (PStep.c (p_len rfl wCard_isl26 (Sees.of rfl))) rfl rfl rfl rfl) ?_
    refine scons (CStep.step (PStep.c (p_gtr rfl (Sees.of rfl) (Sees.of rfl))) rfl rfl rfl rfl) ?_
    refine scons (CStep.step (PStep.c (p_assign (y := .val _) rfl (Sees.of rfl) rfl)) rfl rfl rfl rfl) ?_
    refine snil ?_
    refine f_cond rfl ?_ ?_
    · intro hc2
      try simp only [bs] at hc2
      refine f_seq ?_
      refine f_region ?_
      refine scons (CStep.step (PStep.c (p_build rfl wCard_plc24 wCard_zer24 (by decide) wCard_zch24 ⟨_, _, _, rfl, rfl, rfl, (Sees.of rfl), rfl⟩ rfl)) rfl rfl rfl rfl) ?_
      refine scons (r_storeS rfl wCard_siz24 rfl rfl rfl (Sees.of rfl) rfl (Sees.of rfl) rfl rfl rfl rfl) ?_
      refine snil ?_
      refine f_ret ?_
      refine ends_ret (res_eq (res1 rfl (res_cell (by rfl) rfl rfl wCard_agg24 wCard_siz24 rfl rfl)) ?_)
      rw [Sp.cardWrong, if_neg (by omega), if_pos (by omega)]
      all_goals rfl
    · intro hc2
      try simp only [bs] at hc2
      refine f_skip ?_
      refine f_nil ?_
      show AWs _ _ _ _ _
      refine f_seq ?_
      refine f_region ?_
      refine scons (CStep.step (PStep.c (p_move (y := .val _) rfl (Sees.of rfl) rfl)) rfl rfl rfl rfl) ?_
      refine scons (CStep.step (PStep.c (p_move (y := .val _) rfl (Sees.of rfl) rfl)) rfl rfl rfl rfl) ?_
      refine scons (CStep.step (c_call rfl wCard_isf75 ⟨_, _, rfl, (Sees.of rfl), rfl, ⟨_, _, rfl, (Sees.of rfl), rfl, rfl⟩⟩ (list_spec l n (by omega))) rfl rfl rfl rfl) ?_
      refine scons (r_storeS rfl wCard_siz24 rfl rfl rfl (Sees.of rfl) rfl (Sees.of rfl) rfl rfl rfl rfl) ?_
      refine snil ?_
      refine f_ret ?_
      refine ends_ret (res_eq (res1 rfl (res_cell (by rfl) rfl rfl wCard_agg24 wCard_siz24 rfl rfl)) ?_)
      rw [Sp.cardWrong, if_neg (by omega), if_neg (by omega)]
      all_goals rfl

theorem cardFault_spec (n : Int) (l : List Int) :
    Spec Go.Proofs.Try.prog 21 [iv n, .val (ints l)] (fault (Sp.cardWrong n l).1 (Sp.cardWrong n l).2) := by
  refine spec_of' Go.Proofs.Try.func21 rfl Go.Proofs.Try.ntmps21 rfl ?_
  refine f_seq ?_
  refine f_region ?_
  refine scons (r_alloc (ob := 10004) rfl wCard_zer24 rfl rfl rfl rfl rfl rfl) ?_
  refine snil ?_
  refine f_seq ?_
  refine f_seq ?_
  refine f_region ?_
  refine scons (CStep.step (PStep.c (p_move (y := .val _) rfl (Sees.of rfl) rfl)) rfl rfl rfl rfl) ?_
  refine scons (CStep.step (PStep.c (p_lss rfl (Sees.of rfl) (Sees.of rfl))) rfl rfl rfl rfl) ?_
  refine scons (CStep.step (PStep.c (p_move (y := .val _) rfl (Sees.of rfl) rfl)) rfl rfl rfl rfl) ?_
  refine scons (CStep.guard rfl rfl rfl (fun hg0 => PStep.c (p_move (y := .val _) rfl (Sees.of rfl) rfl)) rfl rfl rfl rfl rfl) ?_
  refine scons (CStep.guard rfl rfl rfl (fun hg0 => PStep.c (p_gtr rfl (Sees.gv' rfl hg0) (Sees.of rfl))) rfl rfl rfl rfl rfl) ?_
  refine scons (CStep.step (PStep.c (p_or rfl (Sees.of rfl) (Sees.of rfl) (fun h => Sees.gv' rfl (beq_of_eq h)))) rfl rfl rfl rfl) ?_
  refine snil ?_
  refine f_cond rfl ?_ ?_
  · intro hc1
    try simp only [bs] at hc1
    refine f_seq ?_
    refine f_region ?_
    refine scons (CStep.step (PStep.c (p_build rfl wCard_plc24 wCard_zer24 (by decide) wCard_zch24 ⟨_, _, _, rfl, rfl, rfl, (Sees.of rfl), rfl⟩ rfl)) rfl rfl rfl rfl) ?_
    refine scons (r_storeS rfl wCard_siz24 rfl rfl rfl (Sees.of rfl) rfl (Sees.of rfl) rfl rfl rfl rfl) ?_
    refine snil ?_
    refine f_ret ?_
    refine ends_ret (res_eq (res1 rfl (res_cell (by rfl) rfl rfl wCard_agg24 wCard_siz24 rfl rfl)) ?_)
    rw [Sp.cardWrong, if_pos (by omega)]
    all_goals rfl
  · intro hc1
    try simp only [bs] at hc1
    refine f_skip ?_
    refine f_seq ?_
    refine f_seq ?_
    refine f_region ?_
    refine scons (CStep.step (PStep.c (p_move (y := .val _) rfl (Sees.of rfl) rfl)) rfl rfl rfl rfl) ?_
    refine scons (CStep.step (PStep.c (p_len rfl wCard_isl26 (Sees.of rfl))) rfl rfl rfl rfl) ?_
    refine scons (CStep.step (PStep.c (p_gtr rfl (Sees.of rfl) (Sees.of rfl))) rfl rfl rfl rfl) ?_
    refine snil ?_
    refine f_cond rfl ?_ ?_
    · intro hc2
      try simp only [bs] at hc2
      refine f_seq ?_
      refine f_region ?_
      refine scons (CStep.step (PStep.c (p_build rfl wCard_plc24 wCard_zer24 (by decide) wCard_zch24 ⟨_, _, _, rfl, rfl, rfl, (Sees.of rfl), rfl⟩ rfl)) rfl rfl rfl rfl) ?_
      refine scons (r_storeS rfl wCard_siz24 rfl rfl rfl (Sees.of rfl) rfl (Sees.of rfl) rfl rfl rfl rfl) ?_
      refine snil ?_
      refine f_ret ?_
      refine ends_ret (res_eq (res1 rfl (res_cell (by rfl) rfl rfl wCard_agg24 wCard_siz24 rfl rfl)) ?_)
      rw [Sp.cardWrong, if_neg (by omega), if_pos (by omega)]
      all_goals rfl
    · intro hc2
      try simp only [bs] at hc2
      refine f_skip ?_
      refine f_seq ?_
      refine f_region ?_
      refine scons (CStep.step (PStep.c (p_move (y := .val _) rfl (Sees.of rfl) rfl)) rfl rfl rfl rfl) ?_
      refine scons (CStep.step (PStep.c (p_build rfl wCard_plc38 wCard_zer38 (by decide) wCard_zch38 ⟨_, _, _, rfl, rfl, rfl, (Sees.of rfl), rfl⟩ rfl)) rfl rfl rfl rfl) ?_
      refine scons (CStep.step (PStep.c (p_move (y := .val _) rfl (Sees.of rfl) rfl)) rfl rfl rfl rfl) ?_
      refine scons (CStep.step (c_call rfl wCard_isf55 ⟨_, _, rfl, (Sees.of rfl), rfl, ⟨_, _, rfl, (Sees.of rfl), rfl, rfl⟩⟩ (beside_spec n [] l)) rfl rfl rfl rfl) ?_
      refine scons (r_storeS rfl wCard_siz24 rfl rfl rfl (Sees.of rfl) rfl (Sees.of rfl) rfl rfl rfl rfl) ?_
      refine snil ?_
      refine f_ret ?_
      refine ends_ret (res_eq (res1 rfl (res_cell (by rfl) rfl rfl wCard_agg24 wCard_siz24 rfl rfl)) ?_)
      have e : (Sp.check n []) = (0, 0) := by rw [Sp.check, if_neg (by omega), if_neg (by simp), Sp.checkFrom, if_neg (by simp)]
      rw [Sp.cardWrong, if_neg (by omega), if_neg (by omega), Sp.beside, e, if_pos rfl]
      all_goals rfl

theorem counted_spec (n : Int) (l : List Int) (k : Int) :
    Spec Go.Proofs.Try.prog 53 [iv n, .val (ints l), iv k] (fault (Sp.counted n l k).1 (Sp.counted n l k).2) := by
  refine spec_of' Go.Proofs.Try.func53 rfl Go.Proofs.Try.ntmps53 rfl ?_
  refine f_seq ?_
  refine f_region ?_
  refine scons (r_alloc (ob := 10006) rfl wCard_zer24 rfl rfl rfl rfl rfl rfl) ?_
  refine snil ?_
  refine f_seq ?_
  refine f_seq ?_
  refine f_region ?_
  refine scons (CStep.step (PStep.c (p_move (y := .val _) rfl (Sees.of rfl) rfl)) rfl rfl rfl rfl) ?_
  refine scons (CStep.step (PStep.c (p_move (y := .val _) rfl (Sees.of rfl) rfl)) rfl rfl rfl rfl) ?_
  refine scons (CStep.step (c_call rfl wCard_isf62 ⟨_, _, rfl, (Sees.of rfl), rfl, ⟨_, _, rfl, (Sees.of rfl), rfl, rfl⟩⟩ (cardCheck_spec n l)) rfl rfl rfl rfl) ?_
  refine scons (r_alloc (ob := 10007) rfl wCard_zer24 rfl rfl rfl rfl rfl rfl) ?_
  refine scons (r_storeS rfl wCard_siz24 rfl rfl rfl (Sees.of rfl) rfl (Sees.of rfl) rfl rfl rfl rfl) ?_
  refine snil ?_
  refine f_seq ?_
  refine f_region ?_
  refine scons (CStep.step (PStep.c (p_fieldRef rfl wCard_fld24_0 wCard_siz3 rfl (Sees.of rfl) rfl)) rfl rfl rfl rfl) ?_
  refine scons (CStep.step (PStep.c (p_loadB (y := .val _) rfl wCard_agg3 (Sees.of rfl) rfl rfl rfl rfl)) rfl rfl rfl rfl) ?_
  refine scons (CStep.step (PStep.c (p_neq rfl (Sees.of rfl) (Sees.of rfl))) rfl rfl rfl rfl) ?_
  refine snil ?_
  refine f_cond rfl ?_ ?_
  · intro hc1
    try simp only [bs] at hc1
    refine f_seq ?_
    refine f_region ?_
    refine scons (CStep.step (PStep.c (p_loadBS rfl wCard_agg24 wCard_siz24 (Sees.of rfl) rfl rfl rfl)) rfl rfl rfl rfl) ?_
    refine scons (r_storeS rfl wCard_siz24 rfl rfl rfl (Sees.of rfl) rfl (Sees.of rfl) rfl rfl rfl rfl) ?_
    refine snil ?_
    refine f_ret ?_
    refine ends_ret (res_eq (res1 rfl (res_cell (by rfl) rfl rfl wCard_agg24 wCard_siz24 rfl rfl)) ?_)
    rw [Sp.counted, if_pos hc1]
    all_goals rfl
  · intro hc1
    try simp only [bs] at hc1
    refine f_skip ?_
    refine f_seq ?_
    refine f_seq ?_
    refine f_region ?_
    refine scons (CStep.step (PStep.c (p_move (y := .val _) rfl (Sees.of rfl) rfl)) rfl rfl rfl rfl) ?_
    refine scons (CStep.step (PStep.c (p_lss rfl (Sees.of rfl) (Sees.of rfl))) rfl rfl rfl rfl) ?_
    refine scons (CStep.step (PStep.c (p_move (y := .val _) rfl (Sees.of rfl) rfl)) rfl rfl rfl rfl) ?_
    refine scons (CStep.guard rfl rfl rfl (fun hg0 => PStep.c (p_move (y := .val _) rfl (Sees.of rfl) rfl)) rfl rfl rfl rfl rfl) ?_
    refine scons (CStep.guard rfl rfl rfl (fun hg0 => PStep.c (p_gtr rfl (Sees.gv' rfl hg0) (Sees.of rfl))) rfl rfl rfl rfl rfl) ?_
    refine scons (CStep.step (PStep.c (p_or rfl (Sees.of rfl) (Sees.of rfl) (fun h => Sees.gv' rfl (beq_of_eq h)))) rfl rfl rfl rfl) ?_
    refine snil ?_
    refine f_cond rfl ?_ ?_
    · intro hc2
      try simp only [bs] at hc2
      refine f_seq ?_
      refine f_region ?_
      refine scons (CStep.step (PStep.c (p_build rfl wCard_plc24 wCard_zer24 (by decide) wCard_zch24 ⟨_, _, _, rfl, rfl, rfl, (Sees.of rfl), ⟨_, _, _, rfl, rfl, rfl, (Sees.of rfl), rfl⟩⟩ rfl)) rfl rfl rfl rfl) ?_
      refine scons (r_storeS rfl wCard_siz24 rfl rfl rfl (Sees.of rfl) rfl (Sees.of rfl) rfl rfl rfl rfl) ?_
      refine snil ?_
      refine f_ret ?_
      refine ends_ret (res_eq (res1 rfl (res_cell (by rfl) rfl rfl wCard_agg24 wCard_siz24 rfl rfl)) ?_)
      rw [Sp.counted, if_neg (fun h => h hc1), if_pos (by omega)]
      all_goals rfl
    · intro hc2
      try simp only [bs] at hc2
      refine f_skip ?_
      refine f_seq ?_
      refine f_region ?_
      refine scons (CStep.step (PStep.c (p_build rfl wCard_plc24 wCard_zer24 (by decide) wCard_zch24 rfl rfl)) rfl rfl rfl rfl) ?_
      refine scons (r_storeS rfl wCard_siz24 rfl rfl rfl (Sees.of rfl) rfl (Sees.of rfl) rfl rfl rfl rfl) ?_
      refine snil ?_
      refine f_ret ?_
      refine ends_ret (res_eq (res1 rfl (res_cell (by rfl) rfl rfl wCard_agg24 wCard_siz24 rfl rfl)) ?_)
      rw [Sp.counted, if_neg (fun h => h hc1), if_neg (by omega)]
      all_goals rfl

theorem some_spec (l : List Int) (k : Int) (hl : l.length ≤ 8) :
    Spec Go.Proofs.Try.prog 54 [.val (ints l), iv k] (intss (Sp.some l k)) := by
  refine spec_of' Go.Proofs.Try.func54 rfl Go.Proofs.Try.ntmps54 rfl ?_
  refine f_seq ?_
  refine f_region ?_
  refine scons (CStep.step (PStep.c (p_assign (y := .emp) rfl (Sees.of rfl) rfl)) rfl rfl rfl rfl) ?_
  refine snil ?_
  refine f_seq ?_
  refine f_region ?_
  refine scons (CStep.step (PStep.c (p_assign (y := .emp) rfl (Sees.of rfl) rfl)) rfl rfl rfl rfl) ?_
  refine snil ?_
  refine f_seq ?_
  refine f_seq ?_
  have hpw := Sp.pow_ok (m := l.length) (by omega)
  have hp8 : 2 ^ l.length ≤ 256 := Nat.pow_le_pow_right (n := 2) (by decide) hl
  refine f_region ?_
  refine scons (CStep.step (PStep.c (p_move (y := .val _) rfl (Sees.of rfl) rfl)) rfl rfl rfl rfl) ?_
  refine scons (CStep.step (PStep.c (p_len rfl wCard_isl26 (Sees.of rfl))) rfl rfl rfl rfl) ?_
  refine scons (CStep.step (PStep.c (p_shl rfl (Sees.of rfl) (Sees.of rfl) (by omega) (by omega) (by first | omega | assumption))) rfl rfl rfl rfl) ?_
  refine scons (CStep.step (PStep.c (p_move (y := .val _) rfl (Sees.of rfl) rfl)) rfl rfl rfl rfl) ?_
  refine snil ?_
  refine f_block ?_
  refine f_loop (α := Nat × Nat) (fun (s, u) => s ≤ 2 ^ l.length) (fun (s, u) => [(13, iv s), (12, iv (2 ^ l.length : Nat)), (5, .row 20005 u), (20005, .arr u 26 1 24 ints [] (Sp.someTo l k s)), (0, .val (ints l)), (1, iv k), (4, .emp)]) (fun (s, u) => 2 ^ l.length - s) (0, 0) ?_ ?_ ?_
  · exact Nat.zero_le _
  · exact Le.trans (GLe.le (g_adopt (ob := 20005) (k := 5) 26 1 24 ints [] rfl rfl rfl rfl)) (le_ofL ⟨rfl, (by rw [← Sp.pow_nat]; rfl), rfl, rfl, rfl, rfl, rfl, trivial⟩ rfl)
  · rintro ⟨s, u⟩ hs
    have hs : s ≤ 2 ^ l.length := hs
    refine f_seq ?_
    refine f_region ?_
    refine scons (CStep.step (PStep.c (p_lss rfl (Sees.of rfl) (Sees.of rfl))) rfl rfl rfl rfl) ?_
    refine snil ?_
    refine f_seq ?_
    refine f_cond rfl ?_ ?_
    · intro hc1
      try simp only [bs] at hc1
      refine f_skip ?_
      refine f_seq ?_
      refine f_block ?_
      refine f_seq ?_
      refine f_region ?_
      refine scons (CStep.step (PStep.c (p_move (y := .val _) rfl (Sees.of rfl) rfl)) rfl rfl rfl rfl) ?_
      refine scons (CStep.step (PStep.c (p_assign (y := .val _) rfl (Sees.of rfl) rfl)) rfl rfl rfl rfl) ?_
      refine snil ?_
      refine f_seq ?_
      refine f_region ?_
      refine scons (CStep.step (PStep.c (p_assign (y := .emp) rfl (Sees.of rfl) rfl)) rfl rfl rfl rfl) ?_
      refine snil ?_
      refine f_seq ?_
      refine f_seq ?_
      refine f_region ?_
      refine scons (CStep.step (PStep.c (p_move (y := .val _) rfl (Sees.of rfl) rfl)) rfl rfl rfl rfl) ?_
      refine scons (CStep.step (PStep.c (p_len rfl wCard_isl26 (Sees.of rfl))) rfl rfl rfl rfl) ?_
      refine scons (CStep.step (PStep.c (p_move (y := .val _) rfl (Sees.of rfl) rfl)) rfl rfl rfl rfl) ?_
      refine snil ?_
      refine f_block ?_
      refine f_loop (α := Nat × Nat) (fun (i, v) => i ≤ l.length) (fun (i, v) => [(18, iv i), (7, .row 20007 v), (20007, .arr v 3 1 8 di 0 (Sp.subTo l s i)), (0, .val (ints l)), (1, iv k), (4, .emp), (5, .row 20005 u), (6, iv s), (12, iv (2 ^ l.length : Nat)), (13, iv s), (16, .val (ints l)), (17, iv l.length), (20005, .arr u 26 1 24 ints [] (Sp.someTo l k s))]) (fun (i, v) => l.length - i) (0, 0) ?_ ?_ ?_
      · exact Nat.zero_le _
      · exact Le.trans (GLe.le (g_adopt (ob := 20007) (k := 7) 3 1 8 di 0 rfl rfl rfl rfl)) (le_ofL ⟨rfl, rfl, rfl, rfl, rfl, rfl, rfl, rfl, rfl, rfl, rfl, rfl, rfl, trivial⟩ rfl)
      · rintro ⟨i, v⟩ hi
        have hi : i ≤ l.length := hi
        refine f_seq ?_
        refine f_region ?_
        refine scons (CStep.step (PStep.c (p_lss rfl (Sees.of rfl) (Sees.of rfl))) rfl rfl rfl rfl) ?_
        refine snil ?_
        refine f_seq ?_
        refine f_cond rfl ?_ ?_
        · intro hc2
          try simp only [bs] at hc2
          refine f_skip ?_
          refine f_seq ?_
          refine f_block ?_
          refine f_seq ?_
          refine f_region ?_
          refine scons (CStep.step (PStep.c (p_move (y := .val _) rfl (Sees.of rfl) rfl)) rfl rfl rfl rfl) ?_
          refine scons (CStep.step (PStep.c ((by first | exact p_indexN rfl wCard_isl26 wCard_siz3 (Sees.of rfl) (Sees.of rfl) (by omega) | exact p_index rfl wCard_isl26 wCard_siz3 (Sees.of rfl) (Sees.of rfl) (by omega) (by omega)))) rfl rfl rfl rfl) ?_
          refine scons (CStep.step (PStep.c (p_load rfl wCard_agg3 (Sees.of rfl) rfl)) rfl rfl rfl rfl) ?_
          refine scons (CStep.step (PStep.c (p_assign (y := .val _) rfl (Sees.of rfl) rfl)) rfl rfl rfl rfl) ?_
          refine scons (CStep.step (PStep.c (p_assign (y := .val _) rfl (Sees.of rfl) rfl)) rfl rfl rfl rfl) ?_
          refine snil ?_
          refine f_seq ?_
          refine f_region ?_
          refine scons (CStep.step (PStep.c (p_move (y := .val _) rfl (Sees.of rfl) rfl)) rfl rfl rfl rfl) ?_
          refine scons (CStep.step (PStep.c (p_move (y := .val _) rfl (Sees.of rfl) rfl)) rfl rfl rfl rfl) ?_
          refine scons (CStep.step (PStep.c (p_shr rfl (Sees.of rfl) (Sees.of rfl) (by omega) (by omega))) rfl rfl rfl rfl) ?_
          refine scons (CStep.step (PStep.c (p_and1 rfl (Sees.of rfl) (Sees.of rfl))) rfl rfl rfl rfl) ?_
          refine scons (CStep.step (PStep.c (p_eql rfl (Sees.of rfl) (Sees.of rfl))) rfl rfl rfl rfl) ?_
          refine snil ?_
          refine f_cond rfl ?_ ?_
          · intro hc3
            try simp only [bs] at hc3
            have hsl := Sp.subTo_len l s i
            refine f_region ?_
            refine scons (CStep.step (PStep.c (p_move (y := .row _ _) rfl (Sees.of rfl) rfl)) rfl rfl rfl rfl) ?_
            refine scons (CStep.step (PStep.c (p_move (y := .val _) rfl (Sees.of rfl) rfl)) rfl rfl rfl rfl) ?_
            refine scons (CStep.step (c_buildSlice (f := di) (za := 0) (xs := [.tmp 29]) rfl rfl wCard_isl26 wCard_siz3 wCard_zer3 rfl rfl ⟨_, _, rfl, (Sees.of rfl), rfl, rfl, rfl⟩) rfl rfl rfl rfl) ?_
            refine scons (r_appendR (ob := 20007) rfl wCard_isl26 wCard_siz3 wCard_byt3 wCard_zer3 rfl rfl (Sees.of rfl) rfl (Sees.of rfl) (by simp only [List.length_cons, List.length_nil, List.length_append]; omega) (by simp only [List.length_cons, List.length_nil, List.length_append]; omega) rfl rfl rfl rfl rfl) ?_
            refine scons (CStep.step (PStep.c (p_assign (y := .row _ _) rfl (Sees.of rfl) rfl)) rfl rfl rfl rfl) ?_
            refine snil ?_
            refine f_nil ?_
            show AWs _ _ _ _ _
            refine f_region ?_
            refine scons (CStep.step (PStep.c (p_add rfl (Sees.of rfl) (Sees.of rfl) (by omega))) rfl rfl rfl rfl) ?_
            refine scons (CStep.step (PStep.c (p_move (y := .val _) rfl (Sees.of rfl) rfl)) rfl rfl rfl rfl) ?_
            refine snil ?_
            refine f_back ⟨(i + 1, v + 1), ?_, ?_, le_ofL ⟨rfl, rfl, (by rw [Sp.subTo_yes hc3]; rfl), rfl, rfl, rfl, rfl, rfl, rfl, rfl, rfl, rfl, rfl, trivial⟩ rfl⟩
            · show i + 1 ≤ l.length
              omega
            · show l.length - (i + 1) < l.length - i
              omega
          · intro hc3
            try simp only [bs] at hc3
            refine f_skip ?_
            refine f_nil ?_
            show AWs _ _ _ _ _
            refine f_region ?_
            refine scons (CStep.step (PStep.c (p_add rfl (Sees.of rfl) (Sees.of rfl) (by omega))) rfl rfl rfl rfl) ?_
            refine scons (CStep.step (PStep.c (p_move (y := .val _) rfl (Sees.of rfl) rfl)) rfl rfl rfl rfl) ?_
            refine snil ?_
            refine f_back ⟨(i + 1, v), ?_, ?_, le_ofL ⟨rfl, rfl, (by rw [Sp.subTo_no hc3]; rfl), rfl, rfl, rfl, rfl, rfl, rfl, rfl, rfl, rfl, rfl, trivial⟩ rfl⟩
            · show i + 1 ≤ l.length
              omega
            · show l.length - (i + 1) < l.length - i
              omega
        · intro hc2
          try simp only [bs] at hc2
          refine f_exit ?_
          show AWs _ _ _ _ _
          refine f_seq ?_
          obtain rfl : i = l.length := by omega
          refine f_region ?_
          refine scons (CStep.step (PStep.c (p_move (y := .row _ _) rfl (Sees.of rfl) rfl)) rfl rfl rfl rfl) ?_
          refine scons (CStep.step (PStep.c (p_lenR rfl wCard_isl26 (Sees.of rfl) rfl)) rfl rfl rfl rfl) ?_
          refine scons (CStep.step (PStep.c (p_move (y := .val _) rfl (Sees.of rfl) rfl)) rfl rfl rfl rfl) ?_
          refine scons (CStep.step (PStep.c (p_eql rfl (Sees.of rfl) (Sees.of rfl))) rfl rfl rfl rfl) ?_
          refine snil ?_
          refine f_cond rfl ?_ ?_
          · intro hc4
            try simp only [bs] at hc4
            have hso := Sp.someTo_len l k s
            refine f_region ?_
            refine scons (CStep.step (PStep.c (p_move (y := .row _ _) rfl (Sees.of rfl) rfl)) rfl rfl rfl rfl) ?_
            refine scons (CStep.step (PStep.c (p_move (y := .row _ _) rfl (Sees.of rfl) rfl)) rfl rfl rfl rfl) ?_
            refine scons (LStep.pre (g_freeze (k := 38) (o1 := 20007) rfl rfl rfl rfl) (CStep.step (c_buildSlice (f := ints) (za := []) (xs := [.tmp 38]) rfl rfl wCard_isl36 wCard_siz26 wCard_zer26 rfl rfl ⟨_, _, rfl, (Sees.of rfl), rfl, rfl, rfl⟩) rfl rfl rfl rfl)) ?_
            refine scons (r_appendR (ob := 20005) rfl wCard_isl36 wCard_siz26 wCard_byt26 wCard_zer26 rfl rfl (Sees.of rfl) rfl (Sees.of rfl) (by simp only [List.length_cons, List.length_nil, List.length_append]; omega) (by simp only [List.length_cons, List.length_nil, List.length_append]; omega) rfl rfl rfl rfl rfl) ?_
            refine scons (CStep.step (PStep.c (p_assign (y := .row _ _) rfl (Sees.of rfl) rfl)) rfl rfl rfl rfl) ?_
            refine snil ?_
            refine f_nil ?_
            show AWs _ _ _ _ _
            refine f_region ?_
            refine scons (CStep.step (PStep.c (p_add rfl (Sees.of rfl) (Sees.of rfl) (by omega))) rfl rfl rfl rfl) ?_
            refine scons (CStep.step (PStep.c (p_move (y := .val _) rfl (Sees.of rfl) rfl)) rfl rfl rfl rfl) ?_
            refine snil ?_
            refine f_back ⟨(s + 1, u + 1), ?_, ?_, le_ofL ⟨rfl, rfl, rfl, (by rw [Sp.someTo_yes hc4]; rfl), rfl, rfl, rfl, trivial⟩ rfl⟩
            · show s + 1 ≤ 2 ^ l.length
              omega
            · show 2 ^ l.length - (s + 1) < 2 ^ l.length - s
              omega
          · intro hc4
            try simp only [bs] at hc4
            refine f_skip ?_
            refine f_nil ?_
            show AWs _ _ _ _ _
            refine f_region ?_
            refine scons (CStep.step (PStep.c (p_add rfl (Sees.of rfl) (Sees.of rfl) (by omega))) rfl rfl rfl rfl) ?_
            refine scons (CStep.step (PStep.c (p_move (y := .val _) rfl (Sees.of rfl) rfl)) rfl rfl rfl rfl) ?_
            refine snil ?_
            refine f_back ⟨(s + 1, u), ?_, ?_, le_ofL ⟨rfl, rfl, rfl, (by rw [Sp.someTo_no hc4]; rfl), rfl, rfl, rfl, trivial⟩ rfl⟩
            · show s + 1 ≤ 2 ^ l.length
              omega
            · show 2 ^ l.length - (s + 1) < 2 ^ l.length - s
              omega
    · intro hc1
      try simp only [bs] at hc1
      refine f_exit ?_
      show AWs _ _ _ _ _
      refine f_seq ?_
      refine f_region ?_
      refine scons (CStep.step (PStep.c (p_move (y := .row _ _) rfl (Sees.of rfl) rfl)) rfl rfl rfl rfl) ?_
      refine scons (CStep.step (PStep.c (p_assign (y := .row _ _) rfl (Sees.of rfl) rfl)) rfl rfl rfl rfl) ?_
      refine snil ?_
      refine f_ret ?_
      refine ends_ret (res_eq (res1 rfl (res_row rfl rfl rfl)) ?_)
      obtain rfl : s = 2 ^ l.length := by omega
      rfl

theorem most_spec (n : Int) (l : List Int) (k : Int) :
    Spec Go.Proofs.Try.prog 20 [iv n, .val (ints l), iv k] (two (cnf (Sp.most n l k).1 (Sp.most n l k).2.1) (fault (Sp.most n l k).2.2.1 (Sp.most n l k).2.2.2)) := by
  refine spec_of' Go.Proofs.Try.func20 rfl Go.Proofs.Try.ntmps20 rfl ?_
  refine f_seq ?_
  refine f_region ?_
  refine scons (r_alloc (ob := 10006) rfl wCard_zer38 rfl rfl rfl rfl rfl rfl) ?_
  refine scons (r_alloc (ob := 10007) rfl wCard_zer24 rfl rfl rfl rfl rfl rfl) ?_
  refine snil ?_
  refine f_seq ?_
  refine f_seq ?_
  refine f_region ?_
  refine scons (CStep.step (PStep.c (p_move (y := .val _) rfl (Sees.of rfl) rfl)) rfl rfl rfl rfl) ?_
  refine scons (CStep.step (PStep.c (p_move (y := .val _) rfl (Sees.of rfl) rfl)) rfl rfl rfl rfl) ?_
  refine scons (CStep.step (PStep.c (p_move (y := .val _) rfl (Sees.of rfl) rfl)) rfl rfl rfl rfl) ?_
  refine scons (CStep.step (c_call rfl wCard_isf53 ⟨_, _, rfl, (Sees.of rfl), rfl, ⟨_, _, rfl, (Sees.of rfl), rfl, ⟨_, _, rfl, (Sees.of rfl), rfl, rfl⟩⟩⟩ (counted_spec n l k)) rfl rfl rfl rfl) ?_
  refine scons (r_alloc (ob := 10008) rfl wCard_zer24 rfl rfl rfl rfl rfl rfl) ?_
  refine scons (r_storeS rfl wCard_siz24 rfl rfl rfl (Sees.of rfl) rfl (Sees.of rfl) rfl rfl rfl rfl) ?_
  refine snil ?_
  refine f_seq ?_
  refine f_region ?_
  refine scons (CStep.step (PStep.c (p_fieldRef rfl wCard_fld24_0 wCard_siz3 rfl (Sees.of rfl) rfl)) rfl rfl rfl rfl) ?_
  refine scons (CStep.step (PStep.c (p_loadB (y := .val _) rfl wCard_agg3 (Sees.of rfl) rfl rfl rfl rfl)) rfl rfl rfl rfl) ?_
  refine scons (CStep.step (PStep.c (p_neq rfl (Sees.of rfl) (Sees.of rfl))) rfl rfl rfl rfl) ?_
  refine snil ?_
  refine f_cond rfl ?_ ?_
  · intro hc1
    try simp only [bs] at hc1
    refine f_seq ?_
    refine f_draw wCard_mix (by kernel_rfl) ?_
    refine dcons (CStep.step (PStep.c (p_build rfl wCard_plc38 wCard_zer38 (by decide) wCard_zch38 rfl rfl)) rfl rfl rfl rfl) ?_
    refine dcons (CStep.step (PStep.c (p_loadBS rfl wCard_agg24 wCard_siz24 (Sees.of rfl) rfl rfl rfl)) rfl rfl rfl rfl) ?_
    refine dcons (r_storeS rfl wCard_siz38 rfl rfl rfl (Sees.of rfl) rfl (Sees.of rfl) rfl rfl rfl rfl) ?_
    refine dcons (r_storeS rfl wCard_siz24 rfl rfl rfl (Sees.of rfl) rfl (Sees.of rfl) rfl rfl rfl rfl) ?_
    refine dnil (by kernel_rfl) ?_
    refine f_ret ?_
    refine ends_ret (res_eq (res2 rfl (res_cell (by rfl) rfl rfl wCard_agg38 wCard_siz38 rfl rfl) (res_cell (by rfl) rfl rfl wCard_agg24 wCard_siz24 rfl rfl)) ?_)
    rw [Sp.most, if_pos hc1]
    all_goals rfl
  · intro hc1
    try simp only [bs] at hc1
    refine f_skip ?_
    refine f_seq ?_
    have hco := Sp.counted_ok hc1
    refine f_region ?_
    refine scons (CStep.step (PStep.c (p_assign (y := .emp) rfl (Sees.of rfl) rfl)) rfl rfl rfl rfl) ?_
    refine snil ?_
    refine f_seq ?_
    refine f_seq ?_
    refine f_region ?_
    refine scons (CStep.step (PStep.c (p_move (y := .val _) rfl (Sees.of rfl) rfl)) rfl rfl rfl rfl) ?_
    refine scons (CStep.step (PStep.c (p_len rfl wCard_isl26 (Sees.of rfl))) rfl rfl rfl rfl) ?_
    refine scons (CStep.step (PStep.c (p_move (y := .val _) rfl (Sees.of rfl) rfl)) rfl rfl rfl rfl) ?_
    refine snil ?_
    refine f_block ?_
    refine f_loop (α := Nat × Nat) (fun (i, u) => i ≤ l.length) (fun (i, u) => [(23, iv i), (9, .row 20009 u), (20009, .arr u 3 1 8 di 0 (Sp.negs (l.take i))), (0, iv n), (2, iv k), (6, .ref 10006 0 0), (7, .ref 10007 0 0), (21, .val (ints l)), (22, iv l.length), (10006, .box 0 (.ccons (iv 0) (.ccons (.emp) .cnil))), (10007, .box 0 (.ccons (iv 0) (.ccons (iv 0) .cnil)))]) (fun (i, u) => l.length - i) (0, 0) ?_ ?_ ?_
    · exact Nat.zero_le _
    · exact Le.trans (GLe.le (g_adopt (ob := 20009) (k := 9) 3 1 8 di 0 rfl rfl rfl rfl)) (le_ofL ⟨rfl, rfl, rfl, rfl, rfl, rfl, rfl, rfl, rfl, rfl, rfl, trivial⟩ rfl)
    · rintro ⟨i, u⟩ hi
      have hi : i ≤ l.length := hi
      refine f_seq ?_
      refine f_region ?_
      refine scons (CStep.step (PStep.c (p_lss rfl (Sees.of rfl) (Sees.of rfl))) rfl rfl rfl rfl) ?_
      refine snil ?_
      refine f_seq ?_
      refine f_cond rfl ?_ ?_
      · intro hc2
        try simp only [bs] at hc2
        refine f_skip ?_
        refine f_seq ?_
        refine f_block ?_
        refine f_seq ?_
        refine f_region ?_
        refine scons (CStep.step (PStep.c ((by first | exact p_indexN rfl wCard_isl26 wCard_siz3 (Sees.of rfl) (Sees.of rfl) (by omega) | exact p_index rfl wCard_isl26 wCard_siz3 (Sees.of rfl) (Sees.of rfl) (by omega) (by omega)))) rfl rfl rfl rfl) ?_
        refine scons (CStep.step (PStep.c (p_load rfl wCard_agg3 (Sees.of rfl) rfl)) rfl rfl rfl rfl) ?_
        refine scons (CStep.step (PStep.c (p_assign (y := .val _) rfl (Sees.of rfl) rfl)) rfl rfl rfl rfl) ?_
        refine snil ?_
        have hx := hco.2.2.2.2 _ (Sp.getD_mem l i 0 (by omega))
        refine f_region ?_
        refine scons (CStep.step (PStep.c (p_move (y := .row _ _) rfl (Sees.of rfl) rfl)) rfl rfl rfl rfl) ?_
        refine scons (CStep.step (PStep.c (p_move (y := .val _) rfl (Sees.of rfl) rfl)) rfl rfl rfl rfl) ?_
        refine scons (CStep.step (PStep.c (p_neg rfl (Sees.of rfl) (by omega))) rfl rfl rfl rfl) ?_
        refine scons (CStep.step (c_buildSlice (f := di) (za := 0) (xs := [.tmp 29]) rfl rfl wCard_isl26 wCard_siz3 wCard_zer3 rfl rfl ⟨_, _, rfl, (Sees.of rfl), rfl, rfl, rfl⟩) rfl rfl rfl rfl) ?_
        refine scons (r_appendR (ob := 20009) rfl wCard_isl26 wCard_siz3 wCard_byt3 wCard_zer3 rfl rfl (Sees.of rfl) rfl (Sees.of rfl) (by simp only [Sp.negs, List.length_map, List.length_take, List.length_cons, List.length_nil]; omega) (by simp only [Sp.negs, List.length_map, List.length_take, List.length_cons, List.length_nil]; omega) rfl rfl rfl rfl rfl) ?_
        refine scons (CStep.step (PStep.c (p_assign (y := .row _ _) rfl (Sees.of rfl) rfl)) rfl rfl rfl rfl) ?_
        refine snil ?_
        refine f_nil ?_
        show AWs _ _ _ _ _
        refine f_region ?_
        refine scons (CStep.step (PStep.c (p_add rfl (Sees.of rfl) (Sees.of rfl) (by omega))) rfl rfl rfl rfl) ?_
        refine scons (CStep.step (PStep.c (p_move (y := .val _) rfl (Sees.of rfl) rfl)) rfl rfl rfl rfl) ?_
        refine snil ?_
        refine f_back ⟨(i + 1, u + 1), ?_, ?_, le_ofL ⟨rfl, rfl, (by rw [Sp.negs_take l i (by omega)]; rfl), rfl, rfl, rfl, rfl, rfl, rfl, rfl, rfl, trivial⟩ rfl⟩
        · show i + 1 ≤ l.length
          omega
        · show l.length - (i + 1) < l.length - i
          omega
      · intro hc2
        try simp only [bs] at hc2
        refine f_exit ?_
        show AWs _ _ _ _ _
        refine f_seq ?_
        obtain rfl : i = l.length := by omega
        have hnl : (Sp.negs (l.take l.length)).length ≤ 8 := by rw [List.take_length, Sp.negs, List.length_map]; omega
        refine f_region ?_
        refine scons (CStep.step (PStep.c (p_move (y := .val _) rfl (Sees.of rfl) rfl)) rfl rfl rfl rfl) ?_
        refine scons (CStep.step (PStep.c (p_move (y := .row _ _) rfl (Sees.of rfl) rfl)) rfl rfl rfl rfl) ?_
        refine scons (CStep.step (PStep.c (p_move (y := .val _) rfl (Sees.of rfl) rfl)) rfl rfl rfl rfl) ?_
        refine scons (CStep.step (PStep.c (p_add rfl (Sees.of rfl) (Sees.of rfl) (by omega))) rfl rfl rfl rfl) ?_
        refine scons (LStep.pre (g_freeze (k := 34) (o1 := 20009) rfl rfl rfl rfl) (CStep.step (c_call rfl wCard_isf54 ⟨_, _, rfl, (Sees.of rfl), rfl, ⟨_, _, rfl, (Sees.of rfl), rfl, rfl⟩⟩ (some_spec (Sp.negs (l.take l.length)) (k + 1) hnl)) rfl rfl rfl rfl)) ?_
        refine scons (CStep.step (PStep.c (p_build rfl wCard_plc38 wCard_zer38 (by decide) wCard_zch38 ⟨_, _, _, rfl, rfl, rfl, (Sees.of rfl), ⟨_, _, _, rfl, rfl, rfl, (Sees.of rfl), rfl⟩⟩ rfl)) rfl rfl rfl rfl) ?_
        refine scons (CStep.step (PStep.c (p_build rfl wCard_plc24 wCard_zer24 (by decide) wCard_zch24 rfl rfl)) rfl rfl rfl rfl) ?_
        refine scons (r_storeS rfl wCard_siz38 rfl rfl rfl (Sees.of rfl) rfl (Sees.of rfl) rfl rfl rfl rfl) ?_
        refine scons (r_storeS rfl wCard_siz24 rfl rfl rfl (Sees.of rfl) rfl (Sees.of rfl) rfl rfl rfl rfl) ?_
        refine snil ?_
        refine f_ret ?_
        refine ends_ret (res_eq (res2 rfl (res_cell (by rfl) rfl rfl wCard_agg38 wCard_siz38 rfl rfl) (res_cell (by rfl) rfl rfl wCard_agg24 wCard_siz24 rfl rfl)) ?_)
        rw [List.take_length, Sp.most, if_neg (fun h => h hc1)]
        all_goals rfl

theorem least_spec (n : Int) (l : List Int) (k : Int) :
    Spec Go.Proofs.Try.prog 31 [iv n, .val (ints l), iv k] (two (cnf (Sp.least n l k).1 (Sp.least n l k).2.1) (fault (Sp.least n l k).2.2.1 (Sp.least n l k).2.2.2)) := by
  refine spec_of' Go.Proofs.Try.func31 rfl Go.Proofs.Try.ntmps31 rfl ?_
  refine f_seq ?_
  refine f_region ?_
  refine scons (r_alloc (ob := 10006) rfl wCard_zer38 rfl rfl rfl rfl rfl rfl) ?_
  refine scons (r_alloc (ob := 10007) rfl wCard_zer24 rfl rfl rfl rfl rfl rfl) ?_
  refine snil ?_
  refine f_seq ?_
  refine f_seq ?_
  refine f_region ?_
  refine scons (CStep.step (PStep.c (p_move (y := .val _) rfl (Sees.of rfl) rfl)) rfl rfl rfl rfl) ?_
  refine scons (CStep.step (PStep.c (p_move (y := .val _) rfl (Sees.of rfl) rfl)) rfl rfl rfl rfl) ?_
  refine scons (CStep.step (PStep.c (p_move (y := .val _) rfl (Sees.of rfl) rfl)) rfl rfl rfl rfl) ?_
  refine scons (CStep.step (c_call rfl wCard_isf53 ⟨_, _, rfl, (Sees.of rfl), rfl, ⟨_, _, rfl, (Sees.of rfl), rfl, ⟨_, _, rfl, (Sees.of rfl), rfl, rfl⟩⟩⟩ (counted_spec n l k)) rfl rfl rfl rfl) ?_
  refine scons (r_alloc (ob := 10008) rfl wCard_zer24 rfl rfl rfl rfl rfl rfl) ?_
  refine scons (r_storeS rfl wCard_siz24 rfl rfl rfl (Sees.of rfl) rfl (Sees.of rfl) rfl rfl rfl rfl) ?_
  refine snil ?_
  refine f_seq ?_
  refine f_region ?_
  refine scons (CStep.step (PStep.c (p_fieldRef rfl wCard_fld24_0 wCard_siz3 rfl (Sees.of rfl) rfl)) rfl rfl rfl rfl) ?_
  refine scons (CStep.step (PStep.c (p_loadB (y := .val _) rfl wCard_agg3 (Sees.of rfl) rfl rfl rfl rfl)) rfl rfl rfl rfl) ?_
  refine scons (CStep.step (PStep.c (p_neq rfl (Sees.of rfl) (Sees.of rfl))) rfl rfl rfl rfl) ?_
  refine snil ?_
  refine f_cond rfl ?_ ?_
  · intro hc1
    try simp only [bs] at hc1
    refine f_seq ?_
    refine f_draw wCard_mix (by kernel_rfl) ?_
    refine dcons (CStep.step (PStep.c (p_build rfl wCard_plc38 wCard_zer38 (by decide) wCard_zch38 rfl rfl)) rfl rfl rfl rfl) ?_
    refine dcons (CStep.step (PStep.c (p_loadBS rfl wCard_agg24 wCard_siz24 (Sees.of rfl) rfl rfl rfl)) rfl rfl rfl rfl) ?_
    refine dcons (r_storeS rfl wCard_siz38 rfl rfl rfl (Sees.of rfl) rfl (Sees.of rfl) rfl rfl rfl rfl) ?_
    refine dcons (r_storeS rfl wCard_siz24 rfl rfl rfl (Sees.of rfl) rfl (Sees.of rfl) rfl rfl rfl rfl) ?_
    refine dnil (by kernel_rfl) ?_
    refine f_ret ?_
    refine ends_ret (res_eq (res2 rfl (res_cell (by rfl) rfl rfl wCard_agg38 wCard_siz38 rfl rfl) (res_cell (by rfl) rfl rfl wCard_agg24 wCard_siz24 rfl rfl)) ?_)
    rw [Sp.least, if_pos hc1]
    all_goals rfl
  · intro hc1
    try simp only [bs] at hc1
    refine f_skip ?_
    refine f_seq ?_
    refine f_block ?_
    refine f_seq ?_
    have hco := Sp.counted_ok hc1
    refine f_region ?_
    refine scons (CStep.step (PStep.c (p_move (y := .val _) rfl (Sees.of rfl) rfl)) rfl rfl rfl rfl) ?_
    refine scons (CStep.step (PStep.c (p_eql rfl (Sees.of rfl) (Sees.of rfl))) rfl rfl rfl rfl) ?_
    refine scons (CStep.step (PStep.c (p_assign (y := .val _) rfl (Sees.of rfl) rfl)) rfl rfl rfl rfl) ?_
    refine snil ?_
    refine f_cond rfl ?_ ?_
    · intro hc2
      try simp only [bs] at hc2
      refine f_seq ?_
      refine f_region ?_
      refine scons (CStep.step (PStep.c (p_move (y := .val _) rfl (Sees.of rfl) rfl)) rfl rfl rfl rfl) ?_
      refine scons (CStep.step (PStep.c (p_build rfl wCard_plc38 wCard_zer38 (by decide) wCard_zch38 ⟨_, _, _, rfl, rfl, rfl, (Sees.of rfl), rfl⟩ rfl)) rfl rfl rfl rfl) ?_
      refine scons (CStep.step (PStep.c (p_build rfl wCard_plc24 wCard_zer24 (by decide) wCard_zch24 rfl rfl)) rfl rfl rfl rfl) ?_
      refine scons (r_storeS rfl wCard_siz38 rfl rfl rfl (Sees.of rfl) rfl (Sees.of rfl) rfl rfl rfl rfl) ?_
      refine scons (r_storeS rfl wCard_siz24 rfl rfl rfl (Sees.of rfl) rfl (Sees.of rfl) rfl rfl rfl rfl) ?_
      refine snil ?_
      refine f_ret ?_
      refine ends_ret (res_eq (res2 rfl (res_cell (by rfl) rfl rfl wCard_agg38 wCard_siz38 rfl rfl) (res_cell (by rfl) rfl rfl wCard_agg24 wCard_siz24 rfl rfl)) ?_)
      rw [Sp.least, if_neg (fun h => h hc1), if_pos hc2]
      all_goals rfl
    · intro hc2
      try simp only [bs] at hc2
      refine f_seq ?_
      refine f_region ?_
      refine scons (CStep.step (PStep.c (p_move (y := .val _) rfl (Sees.of rfl) rfl)) rfl rfl rfl rfl) ?_
      refine scons (CStep.step (PStep.c (p_move (y := .val _) rfl (Sees.of rfl) rfl)) rfl rfl rfl rfl) ?_
      refine scons (CStep.step (PStep.c (p_len rfl wCard_isl26 (Sees.of rfl))) rfl rfl rfl rfl) ?_
      refine scons (CStep.step (PStep.c (p_gtr rfl (Sees.of rfl) (Sees.of rfl))) rfl rfl rfl rfl) ?_
      refine scons (CStep.step (PStep.c (p_assign (y := .val _) rfl (Sees.of rfl) rfl)) rfl rfl rfl rfl) ?_
      refine snil ?_
      refine f_cond rfl ?_ ?_
      · intro hc3
        try simp only [bs] at hc3
        refine f_seq ?_
        refine f_region ?_
        refine scons (CStep.step (PStep.c (p_move (y := .val _) rfl (Sees.of rfl) rfl)) rfl rfl rfl rfl) ?_
        refine scons (CStep.step (c_buildSlice (f := di) (za := 0) (xs := []) rfl rfl wCard_isl26 wCard_siz3 wCard_zer3 rfl rfl rfl) rfl rfl rfl rfl) ?_
        refine scons (CStep.step (c_buildSlice (f := ints) (za := []) (xs := [.tmp 30]) rfl rfl wCard_isl36 wCard_siz26 wCard_zer26 rfl rfl ⟨_, _, rfl, (Sees.of rfl), rfl, rfl, rfl⟩) rfl rfl rfl rfl) ?_
        refine scons (CStep.step (PStep.c (p_build rfl wCard_plc38 wCard_zer38 (by decide) wCard_zch38 ⟨_, _, _, rfl, rfl, rfl, (Sees.of rfl), ⟨_, _, _, rfl, rfl, rfl, (Sees.of rfl), rfl⟩⟩ rfl)) rfl rfl rfl rfl) ?_
        refine scons (CStep.step (PStep.c (p_build rfl wCard_plc24 wCard_zer24 (by decide) wCard_zch24 rfl rfl)) rfl rfl rfl rfl) ?_
        refine scons (r_storeS rfl wCard_siz38 rfl rfl rfl (Sees.of rfl) rfl (Sees.of rfl) rfl rfl rfl rfl) ?_
        refine scons (r_storeS rfl wCard_siz24 rfl rfl rfl (Sees.of rfl) rfl (Sees.of rfl) rfl rfl rfl rfl) ?_
        refine snil ?_
        refine f_ret ?_
        refine ends_ret (res_eq (res2 rfl (res_cell (by rfl) rfl rfl wCard_agg38 wCard_siz38 rfl rfl) (res_cell (by rfl) rfl rfl wCard_agg24 wCard_siz24 rfl rfl)) ?_)
        rw [Sp.least, if_neg (fun h => h hc1), if_neg hc2, if_pos hc3]
        all_goals rfl
      · intro hc3
        try simp only [bs] at hc3
        refine f_skip ?_
        refine f_nil ?_
        show AWs _ _ _ _ _
        refine f_seq ?_
        refine f_region ?_
        refine scons (CStep.step (PStep.c (p_move (y := .val _) rfl (Sees.of rfl) rfl)) rfl rfl rfl rfl) ?_
        refine scons (CStep.step (PStep.c (p_move (y := .val _) rfl (Sees.of rfl) rfl)) rfl rfl rfl rfl) ?_
        refine scons (CStep.step (PStep.c (p_move (y := .val _) rfl (Sees.of rfl) rfl)) rfl rfl rfl rfl) ?_
        refine scons (CStep.step (PStep.c (p_len rfl wCard_isl26 (Sees.of rfl))) rfl rfl rfl rfl) ?_
        refine scons (CStep.step (PStep.c (p_move (y := .val _) rfl (Sees.of rfl) rfl)) rfl rfl rfl rfl) ?_
        refine scons (CStep.step (PStep.c (p_sub rfl (Sees.of rfl) (Sees.of rfl) (by omega))) rfl rfl rfl rfl) ?_
        refine scons (CStep.step (PStep.c (p_add rfl (Sees.of rfl) (Sees.of rfl) (by omega))) rfl rfl rfl rfl) ?_
        refine scons (CStep.step (c_call rfl wCard_isf54 ⟨_, _, rfl, (Sees.of rfl), rfl, ⟨_, _, rfl, (Sees.of rfl), rfl, rfl⟩⟩ (some_spec l ((l.length : Int) - k + 1) (by omega))) rfl rfl rfl rfl) ?_
        refine scons (CStep.step (PStep.c (p_build rfl wCard_plc38 wCard_zer38 (by decide) wCard_zch38 ⟨_, _, _, rfl, rfl, rfl, (Sees.of rfl), ⟨_, _, _, rfl, rfl, rfl, (Sees.of rfl), rfl⟩⟩ rfl)) rfl rfl rfl rfl) ?_
        refine scons (CStep.step (PStep.c (p_build rfl wCard_plc24 wCard_zer24 (by decide) wCard_zch24 rfl rfl)) rfl rfl rfl rfl) ?_
        refine scons (r_storeS rfl wCard_siz38 rfl rfl rfl (Sees.of rfl) rfl (Sees.of rfl) rfl rfl rfl rfl) ?_
        refine scons (r_storeS rfl wCard_siz24 rfl rfl rfl (Sees.of rfl) rfl (Sees.of rfl) rfl rfl rfl rfl) ?_
        refine snil ?_
        refine f_ret ?_
        refine ends_ret (res_eq (res2 rfl (res_cell (by rfl) rfl rfl wCard_agg38 wCard_siz38 rfl rfl) (res_cell (by rfl) rfl rfl wCard_agg24 wCard_siz24 rfl rfl)) ?_)
        rw [Sp.least, if_neg (fun h => h hc1), if_neg hc2, if_neg (by omega)]
        all_goals rfl

theorem holding_spec (a : List Bool) (l : List Int) (hG : Sp.Good a.length l) :
    Spec Go.Proofs.Try.prog 24 [.val (bools a), .val (ints l)] (di (Sp.holding a l)) := by
  refine spec_of' Go.Proofs.Try.func24 rfl Go.Proofs.Try.ntmps24 rfl ?_
  refine f_seq ?_
  refine f_wf (.tmp 1) rfl (fun hwf => ?_) (by simp)
  have hlen : l.length ≤ 140737488355328 := hwf.1
  clear hwf
  refine f_region ?_
  refine scons (CStep.step (PStep.c (p_assign (y := .val _) rfl (Sees.of rfl) rfl)) rfl rfl rfl rfl) ?_
  refine snil ?_
  refine f_seq ?_
  refine f_region ?_
  refine scons (CStep.step (PStep.c (p_assign (y := .val _) rfl (Sees.of rfl) rfl)) rfl rfl rfl rfl) ?_
  refine snil ?_
  refine f_seq ?_
  refine f_seq ?_
  refine f_region ?_
  refine scons (CStep.step (PStep.c (p_assign (y := .val _) rfl (Sees.of rfl) rfl)) rfl rfl rfl rfl) ?_
  refine snil ?_
  refine f_block ?_
  refine f_loop (α := Nat) (fun i => i ≤ l.length) (fun i => [(5, iv ((l.take i).filter (Sp.lit a)).length), (6, iv i), (0, .val (bools a)), (1, .val (ints l)), (4, iv 0)]) (fun i => l.length - i) 0 ?_ ?_ ?_
  · exact Nat.zero_le _
  · exact le_ofL ⟨rfl, rfl, rfl, rfl, rfl, trivial⟩ rfl
  · rintro i hi
    refine f_seq ?_
    refine f_seq ?_
    refine f_region ?_
    refine scons (CStep.step (PStep.c (p_move (y := .val _) rfl (Sees.of rfl) rfl)) rfl rfl rfl rfl) ?_
    refine scons (CStep.step (PStep.c (p_move (y := .val _) rfl (Sees.of rfl) rfl)) rfl rfl rfl rfl) ?_
    refine scons (CStep.step (PStep.c (p_len rfl wCard_isl26 (Sees.of rfl))) rfl rfl rfl rfl) ?_
    refine scons (CStep.step (PStep.c (p_lss rfl (Sees.of rfl) (Sees.of rfl))) rfl rfl rfl rfl) ?_
    refine snil ?_
    refine f_cond rfl ?_ ?_
    · intro hc1
      try simp only [bs] at hc1
      refine f_skip ?_
      refine f_seq ?_
      refine f_block ?_
      refine f_seq ?_
      refine f_region ?_
      refine scons (CStep.step (PStep.c (p_move (y := .val _) rfl (Sees.of rfl) rfl)) rfl rfl rfl rfl) ?_
      refine scons (CStep.step (PStep.c (p_move (y := .val _) rfl (Sees.of rfl) rfl)) rfl rfl rfl rfl) ?_
      refine scons (CStep.step (PStep.c (p_move (y := .val _) rfl (Sees.of rfl) rfl)) rfl rfl rfl rfl) ?_
      refine scons (CStep.step (PStep.c (p_move (y := .val _) rfl (Sees.of rfl) rfl)) rfl rfl rfl rfl) ?_
      refine scons (CStep.step (PStep.c (p_add rfl (Sees.of rfl) (Sees.of rfl) (by omega))) rfl rfl rfl rfl) ?_
      refine scons (CStep.step (PStep.c (p_slice (l := i) (h := i + 1) rfl wCard_isl26 wCard_siz3 (Sees.of rfl) (Sees.of rfl) (Sees.of rfl) (by omega) (by omega))) rfl rfl rfl rfl) ?_
      refine scons (CStep.step (c_call rfl wCard_isf59 ⟨_, _, rfl, (Sees.of rfl), rfl, ⟨_, _, rfl, (Sees.of rfl), rfl, rfl⟩⟩ (sat_spec a _ (fun x hx => hG x (List.mem_of_mem_drop (List.mem_of_mem_take hx))))) rfl rfl rfl rfl) ?_
      refine snil ?_
      refine f_cond rfl ?_ ?_
      · intro hc2
        try simp only [bs] at hc2
        have hk := Sp.filter_at (Sp.lit a) l i
        refine f_region ?_
        refine scons (CStep.step (PStep.c (p_move (y := .val _) rfl (Sees.of rfl) rfl)) rfl rfl rfl rfl) ?_
        refine scons (CStep.step (PStep.c (p_add rfl (Sees.of rfl) (Sees.of rfl) (by omega))) rfl rfl rfl rfl) ?_
        refine scons (CStep.step (PStep.c (p_assign (y := .val _) rfl (Sees.of rfl) rfl)) rfl rfl rfl rfl) ?_
        refine snil ?_
        refine f_nil ?_
        show AWs _ _ _ _ _
        refine f_region ?_
        refine scons (CStep.step (PStep.c (p_move (y := .val _) rfl (Sees.of rfl) rfl)) rfl rfl rfl rfl) ?_
        refine scons (CStep.step (PStep.c (p_add rfl (Sees.of rfl) (Sees.of rfl) (by omega))) rfl rfl rfl rfl) ?_
        refine scons (CStep.step (PStep.c (p_assign (y := .val _) rfl (Sees.of rfl) rfl)) rfl rfl rfl rfl) ?_
        refine snil ?_
        refine f_back ⟨i + 1, ?_, ?_, le_ofL ⟨(by have e : Sp.lit a (l.getD i 0) = true := (by rw [← Sp.sat_one (by omega)]; exact hc2); rw [Sp.filter_yes (by omega) e]; rfl), rfl, rfl, rfl, rfl, trivial⟩ rfl⟩
        · omega
        · omega
      · intro hc2
        try simp only [bs] at hc2
        refine f_skip ?_
        refine f_nil ?_
        show AWs _ _ _ _ _
        refine f_region ?_
        refine scons (CStep.step (PStep.c (p_move (y := .val _) rfl (Sees.of rfl) rfl)) rfl rfl rfl rfl) ?_
        refine scons (CStep.step (PStep.c (p_add rfl (Sees.of rfl) (Sees.of rfl) (by omega))) rfl rfl rfl rfl) ?_
        refine scons (CStep.step (PStep.c (p_assign (y := .val _) rfl (Sees.of rfl) rfl)) rfl rfl rfl rfl) ?_
        refine snil ?_
        refine f_back ⟨i + 1, ?_, ?_, le_ofL ⟨(by have e : Sp.lit a (l.getD i 0) = false := (by rw [← Sp.sat_one (by omega)]; exact hc2); rw [Sp.filter_no (by omega) e]; rfl), rfl, rfl, rfl, rfl, trivial⟩ rfl⟩
        · omega
        · omega
    · intro hc1
      try simp only [bs] at hc1
      refine f_exit ?_
      show AWs _ _ _ _ _
      refine f_seq ?_
      refine f_region ?_
      refine scons (CStep.step (PStep.c (p_move (y := .val _) rfl (Sees.of rfl) rfl)) rfl rfl rfl rfl) ?_
      refine scons (CStep.step (PStep.c (p_assign (y := .val _) rfl (Sees.of rfl) rfl)) rfl rfl rfl rfl) ?_
      refine snil ?_
      refine f_ret ?_
      refine ends_ret (res_eq (res1 rfl (res_tmp rfl (Sees.of rfl))) ?_)
      rw [List.take_of_length_le (by omega)]
      all_goals rfl

theorem literals_spec (a : List Bool) (hA : a.length ≤ 1000000000000) :
    Spec Go.Proofs.Try.prog 33 [.val (bools a)] (ints (Sp.literals a)) := by
  refine spec_of' Go.Proofs.Try.func33 rfl Go.Proofs.Try.ntmps33 rfl ?_
  refine f_seq ?_
  refine f_region ?_
  refine scons (CStep.step (PStep.c (p_assign (y := .emp) rfl (Sees.of rfl) rfl)) rfl rfl rfl rfl) ?_
  refine snil ?_
  refine f_seq ?_
  refine f_region ?_
  refine scons (CStep.step (PStep.c (p_assign (y := .emp) rfl (Sees.of rfl) rfl)) rfl rfl rfl rfl) ?_
  refine snil ?_
  refine f_seq ?_
  refine f_seq ?_
  refine f_region ?_
  refine scons (CStep.step (PStep.c (p_assign (y := .val _) rfl (Sees.of rfl) rfl)) rfl rfl rfl rfl) ?_
  refine snil ?_
  refine f_block ?_
  refine f_loop (α := Nat × Nat) (fun (i, u) => i ≤ a.length) (fun (i, u) => [(4, iv i), (3, .row 20003 u), (20003, .arr u 3 1 8 di 0 (Sp.literalsTo a i)), (0, .val (bools a)), (2, .emp)]) (fun (i, u) => a.length - i) (0, 0) ?_ ?_ ?_
  · exact Nat.zero_le _
  · exact Le.trans (GLe.le (g_adopt (ob := 20003) (k := 3) 3 1 8 di 0 rfl rfl rfl rfl)) (le_ofL ⟨rfl, rfl, rfl, rfl, rfl, trivial⟩ rfl)
  · rintro ⟨i, u⟩ hi
    have hi : i ≤ a.length := hi
    refine f_seq ?_
    refine f_seq ?_
    refine f_region ?_
    refine scons (CStep.step (PStep.c (p_move (y := .val _) rfl (Sees.of rfl) rfl)) rfl rfl rfl rfl) ?_
    refine scons (CStep.step (PStep.c (p_move (y := .val _) rfl (Sees.of rfl) rfl)) rfl rfl rfl rfl) ?_
    refine scons (CStep.step (PStep.c (p_len rfl wCard_isl46 (Sees.of rfl))) rfl rfl rfl rfl) ?_
    refine scons (CStep.step (PStep.c (p_lss rfl (Sees.of rfl) (Sees.of rfl))) rfl rfl rfl rfl) ?_
    refine snil ?_
    refine f_cond rfl ?_ ?_
    · intro hc1
      try simp only [bs] at hc1
      refine f_skip ?_
      refine f_seq ?_
      refine f_block ?_
      refine f_seq ?_
      refine f_region ?_
      refine scons (CStep.step (PStep.c (p_move (y := .val _) rfl (Sees.of rfl) rfl)) rfl rfl rfl rfl) ?_
      refine scons (CStep.step (PStep.c (p_move (y := .val _) rfl (Sees.of rfl) rfl)) rfl rfl rfl rfl) ?_
      refine scons (CStep.step (PStep.c ((by first | exact p_indexN rfl wCard_isl46 wCard_siz4 (Sees.of rfl) (Sees.of rfl) (by omega) | exact p_index rfl wCard_isl46 wCard_siz4 (Sees.of rfl) (Sees.of rfl) (by omega) (by omega)))) rfl rfl rfl rfl) ?_
      refine scons (CStep.step (PStep.c (p_load rfl wCard_agg4 (Sees.of rfl) rfl)) rfl rfl rfl rfl) ?_
      refine snil ?_
      refine f_cond rfl ?_ ?_
      · intro hc2
        try simp only [bs] at hc2
        refine f_region ?_
        refine scons (CStep.step (PStep.c (p_move (y := .row _ _) rfl (Sees.of rfl) rfl)) rfl rfl rfl rfl) ?_
        refine scons (CStep.step (PStep.c (p_move (y := .val _) rfl (Sees.of rfl) rfl)) rfl rfl rfl rfl) ?_
        refine scons (CStep.step (PStep.c (p_add rfl (Sees.of rfl) (Sees.of rfl) (by omega))) rfl rfl rfl rfl) ?_
        refine scons (CStep.step (c_buildSlice (f := di) (za := 0) (xs := [.tmp 17]) rfl rfl wCard_isl26 wCard_siz3 wCard_zer3 rfl rfl ⟨_, _, rfl, (Sees.of rfl), rfl, rfl, rfl⟩) rfl rfl rfl rfl) ?_
        refine scons (r_appendR (ob := 20003) rfl wCard_isl26 wCard_siz3 wCard_byt3 wCard_zer3 rfl rfl (Sees.of rfl) rfl (Sees.of rfl) (by simp only [Sp.literalsTo_len, List.length_cons, List.length_nil]; omega) (by simp only [Sp.literalsTo_len, List.length_cons, List.length_nil]; omega) rfl rfl rfl rfl rfl) ?_
        refine scons (CStep.step (PStep.c (p_assign (y := .row _ _) rfl (Sees.of rfl) rfl)) rfl rfl rfl rfl) ?_
        refine snil ?_
        refine f_nil ?_
        show AWs _ _ _ _ _
        refine f_region ?_
        refine scons (CStep.step (PStep.c (p_move (y := .val _) rfl (Sees.of rfl) rfl)) rfl rfl rfl rfl) ?_
        refine scons (CStep.step (PStep.c (p_add rfl (Sees.of rfl) (Sees.of rfl) (by omega))) rfl rfl rfl rfl) ?_
        refine scons (CStep.step (PStep.c (p_assign (y := .val _) rfl (Sees.of rfl) rfl)) rfl rfl rfl rfl) ?_
        refine snil ?_
        refine f_back ⟨(i + 1, u + 1), ?_, ?_, le_ofL ⟨rfl, rfl, (by rw [Sp.literalsTo_succ, Sp.litAt, if_pos hc2]; rfl), rfl, rfl, trivial⟩ rfl⟩
        · show i + 1 ≤ a.length
          omega
        · show a.length - (i + 1) < a.length - i
          omega
      · intro hc2
        try simp only [bs] at hc2
        refine f_region ?_
        refine scons (CStep.step (PStep.c (p_move (y := .row _ _) rfl (Sees.of rfl) rfl)) rfl rfl rfl rfl) ?_
        refine scons (CStep.step (PStep.c (p_move (y := .val _) rfl (Sees.of rfl) rfl)) rfl rfl rfl rfl) ?_
        refine scons (CStep.step (PStep.c (p_neg rfl (Sees.of rfl) (by omega))) rfl rfl rfl rfl) ?_
        refine scons (CStep.step (PStep.c (p_sub rfl (Sees.of rfl) (Sees.of rfl) (by omega))) rfl rfl rfl rfl) ?_
        refine scons (CStep.step (c_buildSlice (f := di) (za := 0) (xs := [.tmp 23]) rfl rfl wCard_isl26 wCard_siz3 wCard_zer3 rfl rfl ⟨_, _, rfl, (Sees.of rfl), rfl, rfl, rfl⟩) rfl rfl rfl rfl) ?_
        refine scons (r_appendR (ob := 20003) rfl wCard_isl26 wCard_siz3 wCard_byt3 wCard_zer3 rfl rfl (Sees.of rfl) rfl (Sees.of rfl) (by simp only [Sp.literalsTo_len, List.length_cons, List.length_nil]; omega) (by simp only [Sp.literalsTo_len, List.length_cons, List.length_nil]; omega) rfl rfl rfl rfl rfl) ?_
        refine scons (CStep.step (PStep.c (p_assign (y := .row _ _) rfl (Sees.of rfl) rfl)) rfl rfl rfl rfl) ?_
        refine snil ?_
        refine f_nil ?_
        show AWs _ _ _ _ _
        refine f_region ?_
        refine scons (CStep.step (PStep.c (p_move (y := .val _) rfl (Sees.of rfl) rfl)) rfl rfl rfl rfl) ?_
        refine scons (CStep.step (PStep.c (p_add rfl (Sees.of rfl) (Sees.of rfl) (by omega))) rfl rfl rfl rfl) ?_
        refine scons (CStep.step (PStep.c (p_assign (y := .val _) rfl (Sees.of rfl) rfl)) rfl rfl rfl rfl) ?_
        refine snil ?_
        refine f_back ⟨(i + 1, u + 1), ?_, ?_, le_ofL ⟨rfl, rfl, (by rw [Sp.literalsTo_succ, Sp.litAt, if_neg (by rw [hc2]; decide)]; rfl), rfl, rfl, trivial⟩ rfl⟩
        · show i + 1 ≤ a.length
          omega
        · show a.length - (i + 1) < a.length - i
          omega
    · intro hc1
      try simp only [bs] at hc1
      refine f_exit ?_
      show AWs _ _ _ _ _
      refine f_seq ?_
      refine f_region ?_
      refine scons (CStep.step (PStep.c (p_move (y := .row _ _) rfl (Sees.of rfl) rfl)) rfl rfl rfl rfl) ?_
      refine scons (CStep.step (PStep.c (p_assign (y := .row _ _) rfl (Sees.of rfl) rfl)) rfl rfl rfl rfl) ?_
      refine snil ?_
      refine f_ret ?_
      refine ends_ret (res_eq (res1 rfl (res_row rfl rfl rfl)) ?_)
      obtain rfl : i = a.length := by omega
      rfl

theorem asked_spec (l : List Int) (hl : l.length ≤ 1000000000000) :
    Spec Go.Proofs.Try.prog 58 [.val (ints l)] (trail l (List.replicate l.length (-1)) 0) := by
  refine spec_of' Go.Proofs.Try.func58 rfl Go.Proofs.Try.ntmps58 rfl ?_
  refine f_seq ?_
  refine f_region ?_
  refine scons (r_alloc (ob := 10002) rfl wCard_zer50 rfl rfl rfl rfl rfl rfl) ?_
  refine snil ?_
  refine f_seq ?_
  refine f_region ?_
  refine scons (r_alloc (ob := 10003) rfl wCard_zer50 rfl rfl rfl rfl rfl rfl) ?_
  refine snil ?_
  refine f_seq ?_
  refine f_seq ?_
  refine f_region ?_
  refine scons (CStep.step (PStep.c (p_assign (y := .val _) rfl (Sees.of rfl) rfl)) rfl rfl rfl rfl) ?_
  refine snil ?_
  refine f_block ?_
  refine f_loop (α := Nat × Nat × Nat) (fun (i, u, v) => i ≤ l.length) (fun (i, u, v) => [(4, iv i), (10003, .box 0 (.ccons (.row 20000 u) (.ccons (.row 20001 v) (.ccons (iv 0) .cnil)))), (20000, .arr u 3 1 8 di 0 (l.take i)), (20001, .arr v 3 1 8 di 0 (List.replicate i (-1))), (0, .val (ints l)), (2, .ref 10002 0 0), (3, .ref 10003 0 0), (10002, .box 0 (.ccons (.emp) (.ccons (.emp) (.ccons (iv 0) .cnil))))]) (fun (i, u, v) => l.length - i) (0, 0, 0) ?_ ?_ ?_
  · exact Nat.zero_le _
  · exact Le.trans (GLe.le (g_adoptB (ob := 10003) (off := 0) (o1 := 20000) 3 1 8 di 0 rfl rfl rfl rfl rfl rfl rfl)) (Le.trans (GLe.le (g_adoptB (ob := 10003) (off := 1) (o1 := 20001) 3 1 8 di 0 rfl rfl rfl rfl rfl rfl rfl)) (le_ofL ⟨rfl, rfl, rfl, rfl, rfl, rfl, rfl, rfl, trivial⟩ rfl))
  · rintro ⟨i, u, v⟩ hi
    have hi : i ≤ l.length := hi
    refine f_seq ?_
    refine f_seq ?_
    refine f_region ?_
    refine scons (CStep.step (PStep.c (p_move (y := .val _) rfl (Sees.of rfl) rfl)) rfl rfl rfl rfl) ?_
    refine scons (CStep.step (PStep.c (p_move (y := .val _) rfl (Sees.of rfl) rfl)) rfl rfl rfl rfl) ?_
    refine scons (CStep.step (PStep.c (p_len rfl wCard_isl26 (Sees.of rfl))) rfl rfl rfl rfl) ?_
    refine scons (CStep.step (PStep.c (p_lss rfl (Sees.of rfl) (Sees.of rfl))) rfl rfl rfl rfl) ?_
    refine snil ?_
    refine f_cond rfl ?_ ?_
    · intro hc1
      try simp only [bs] at hc1
      refine f_skip ?_
      refine f_seq ?_
      refine f_block ?_
      refine f_seq ?_
      refine f_draw wCard_mix (by kernel_rfl) ?_
      refine dcons (CStep.step (PStep.c (p_fieldRef rfl wCard_fld50_0 wCard_siz26 rfl (Sees.of rfl) rfl)) rfl rfl rfl rfl) ?_
      refine dcons (CStep.step (PStep.c (p_loadB (y := .row _ _) rfl wCard_agg26 (Sees.of rfl) rfl rfl rfl rfl)) rfl rfl rfl rfl) ?_
      refine dcons (CStep.step (PStep.c (p_move (y := .val _) rfl (Sees.of rfl) rfl)) rfl rfl rfl rfl) ?_
      refine dcons (CStep.step (PStep.c (p_move (y := .val _) rfl (Sees.of rfl) rfl)) rfl rfl rfl rfl) ?_
      refine dcons (CStep.step (PStep.c ((by first | exact p_indexN rfl wCard_isl26 wCard_siz3 (Sees.of rfl) (Sees.of rfl) (by omega) | exact p_index rfl wCard_isl26 wCard_siz3 (Sees.of rfl) (Sees.of rfl) (by omega) (by omega)))) rfl rfl rfl rfl) ?_
      refine dcons (CStep.step (PStep.c (p_load rfl wCard_agg3 (Sees.of rfl) rfl)) rfl rfl rfl rfl) ?_
      refine dcons (CStep.step (c_buildSlice (f := di) (za := 0) (xs := [.tmp 16]) rfl rfl wCard_isl26 wCard_siz3 wCard_zer3 rfl rfl ⟨_, _, rfl, (Sees.of rfl), rfl, rfl, rfl⟩) rfl rfl rfl rfl) ?_
      refine dcons (r_appendR (ob := 20000) rfl wCard_isl26 wCard_siz3 wCard_byt3 wCard_zer3 rfl rfl (Sees.of rfl) rfl (Sees.of rfl) (by simp only [List.length_take, List.length_cons, List.length_nil]; omega) (by simp only [List.length_take, List.length_cons, List.length_nil]; omega) rfl rfl rfl rfl rfl) ?_
      refine dcons (CStep.step (PStep.c (p_fieldRef rfl wCard_fld50_0 wCard_siz26 rfl (Sees.of rfl) rfl)) rfl rfl rfl rfl) ?_
      refine dcons (r_storeR rfl wCard_siz26 rfl rfl rfl (Sees.of rfl) rfl rfl (Sees.of rfl) rfl) ?_
      refine dnil (by kernel_rfl) ?_
      refine f_region ?_
      refine scons (CStep.step (PStep.c (p_fieldRef rfl wCard_fld50_1 wCard_siz26 rfl (Sees.of rfl) rfl)) rfl rfl rfl rfl) ?_
      refine scons (CStep.step (PStep.c (p_loadB (y := .row _ _) rfl wCard_agg26 (Sees.of rfl) rfl rfl rfl rfl)) rfl rfl rfl rfl) ?_
      refine scons (CStep.step (c_buildSlice (f := di) (za := 0) (xs := [.const (.int .i64 (-1))]) rfl rfl wCard_isl26 wCard_siz3 wCard_zer3 rfl rfl ⟨_, _, rfl, (Sees.of rfl), rfl, rfl, rfl⟩) rfl rfl rfl rfl) ?_
      refine scons (r_appendR (ob := 20001) rfl wCard_isl26 wCard_siz3 wCard_byt3 wCard_zer3 rfl rfl (Sees.of rfl) rfl (Sees.of rfl) (by simp only [List.length_replicate, List.length_cons, List.length_nil]; omega) (by simp only [List.length_replicate, List.length_cons, List.length_nil]; omega) rfl rfl rfl rfl rfl) ?_
      refine scons (CStep.step (PStep.c (p_fieldRef rfl wCard_fld50_1 wCard_siz26 rfl (Sees.of rfl) rfl)) rfl rfl rfl rfl) ?_
      refine scons (r_storeR rfl wCard_siz26 rfl rfl rfl (Sees.of rfl) rfl rfl (Sees.of rfl) rfl) ?_
      refine snil ?_
      refine f_nil ?_
      show AWs _ _ _ _ _
      refine f_region ?_
      refine scons (CStep.step (PStep.c (p_move (y := .val _) rfl (Sees.of rfl) rfl)) rfl rfl rfl rfl) ?_
      refine scons (CStep.step (PStep.c (p_add rfl (Sees.of rfl) (Sees.of rfl) (by omega))) rfl rfl rfl rfl) ?_
      refine scons (CStep.step (PStep.c (p_assign (y := .val _) rfl (Sees.of rfl) rfl)) rfl rfl rfl rfl) ?_
      refine snil ?_
      refine f_back ⟨(i + 1, u + 1, v + 1), ?_, ?_, le_ofL ⟨rfl, rfl, (by rw [Sp.take_getD l i 0 (by omega)]; rfl), (by rw [List.replicate_succ']; rfl), rfl, rfl, rfl, rfl, trivial⟩ rfl⟩
      · show i + 1 ≤ l.length
        omega
      · show l.length - (i + 1) < l.length - i
        omega
    · intro hc1
      try simp only [bs] at hc1
      refine f_exit ?_
      show AWs _ _ _ _ _
      refine f_seq ?_
      obtain rfl : i = l.length := by omega
      refine f_le (GLe.le (g_freezeB (ob := 10003) (off := 0) (o1 := 20000) rfl rfl rfl rfl rfl rfl rfl)) ?_ (by simp)
      refine f_le (GLe.le (g_freezeB (ob := 10003) (off := 1) (o1 := 20001) rfl rfl rfl rfl rfl rfl rfl)) ?_ (by simp)
      refine f_region ?_
      refine scons (CStep.step (PStep.c (p_loadBS rfl wCard_agg50 wCard_siz50 (Sees.of rfl) rfl rfl rfl)) rfl rfl rfl rfl) ?_
      refine scons (r_storeS rfl wCard_siz50 rfl rfl rfl (Sees.of rfl) rfl (Sees.of rfl) rfl rfl rfl rfl) ?_
      refine snil ?_
      refine f_ret ?_
      refine ends_ret (res_eq (res1 rfl (res_cell (by rfl) rfl rfl wCard_agg50 wCard_siz50 rfl rfl)) ?_)
      rw [List.take_length]
      all_goals rfl

end Go.Um
