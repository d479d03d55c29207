/- Walks of Go functions of this seat, each by its contract. No condition beyond what each theorem says. -/
import Derived.Test.YtahphdchlaplaaaRange
import Derived.Test.YtahphdchlaplaaaWEach
import Derived.Test.YtahphdchlaplaaaSpF
import Derived.Test.YtahphdchlaplaaaProg
import Derived.KernelRfl
set_option maxRecDepth 4000
namespace Go.Um
open Go Go.RowKit

theorem wAll_agg22 : IsAgg Go.Proofs.Try.prog 22 false := by unfold IsAgg; kernel_rfl
theorem wAll_agg24 : IsAgg Go.Proofs.Try.prog 24 true := by unfold IsAgg; kernel_rfl
theorem wAll_agg27 : IsAgg Go.Proofs.Try.prog 27 true := by unfold IsAgg; kernel_rfl
theorem wAll_agg3 : IsAgg Go.Proofs.Try.prog 3 false := by unfold IsAgg; kernel_rfl
theorem wAll_byt3 : Bytes Go.Proofs.Try.prog 3 8 := by unfold Bytes; kernel_rfl
theorem wAll_fld24_0 : IsField Go.Proofs.Try.prog 24 0 0 3 := by unfold IsField; kernel_rfl
theorem wAll_fld24_1 : IsField Go.Proofs.Try.prog 24 1 1 22 := by unfold IsField; kernel_rfl
theorem wAll_fld27_0 : IsField Go.Proofs.Try.prog 27 0 0 3 := by unfold IsField; kernel_rfl
theorem wAll_int3 : IsInt Go.Proofs.Try.prog 3 .i64 := by unfold IsInt; kernel_rfl
theorem wAll_int58 : IsInt Go.Proofs.Try.prog 58 .u64 := by unfold IsInt; kernel_rfl
theorem wAll_isf20 : IsFn Go.Proofs.Try.prog 20 := by unfold IsFn; kernel_rfl
theorem wAll_isf36 : IsFn Go.Proofs.Try.prog 36 := by unfold IsFn; kernel_rfl
theorem wAll_isf39 : IsFn Go.Proofs.Try.prog 39 := by unfold IsFn; kernel_rfl
theorem wAll_isl22 : IsSlice Go.Proofs.Try.prog 22 25 := by unfold IsSlice; kernel_rfl
theorem wAll_isl25 : IsSlice Go.Proofs.Try.prog 25 3 := by unfold IsSlice; kernel_rfl
theorem wAll_mix : (Go.Proofs.Try.prog).follows .mixedOrders = true := by kernel_rfl
theorem wAll_plc24 : Places Go.Proofs.Try.prog 24 [(0, 1), (1, 1)] := by unfold Places; kernel_rfl
theorem wAll_plc27 : Places Go.Proofs.Try.prog 27 [(0, 1), (1, 1)] := by unfold Places; kernel_rfl
theorem wAll_siz22 : Size Go.Proofs.Try.prog 22 1 := by unfold Size; kernel_rfl
theorem wAll_siz24 : Size Go.Proofs.Try.prog 24 2 := by unfold Size; kernel_rfl
theorem wAll_siz25 : Size Go.Proofs.Try.prog 25 1 := by unfold Size; kernel_rfl
theorem wAll_siz27 : Size Go.Proofs.Try.prog 27 2 := by unfold Size; kernel_rfl
theorem wAll_siz3 : Size Go.Proofs.Try.prog 3 1 := by unfold Size; kernel_rfl
def wAll_z24 : D := .cons (.int .i64 0) (.cons (intss []) (.nil))
theorem wAll_zch24 : ∀ (ok : Nat → Prop) (w : World), R Go.Proofs.Try.prog wAll_z24 ok w (Value.cells (.agg #[(.int .i64 0), (.slice none 0 0)])).toList := fun _ _ => z_int (z_list (z_nil))
def wAll_z27 : D := .cons (.int .i64 0) (.cons (.int .i64 0) (.nil))
theorem wAll_zch27 : ∀ (ok : Nat → Prop) (w : World), R Go.Proofs.Try.prog wAll_z27 ok w (Value.cells (.agg #[(.int .i64 0), (.int .i64 0)])).toList := fun _ _ => z_int (z_int (z_nil))
theorem wAll_zer24 : Zero Go.Proofs.Try.prog 24 (.agg #[(.int .i64 0), (.slice none 0 0)]) := by unfold Zero; kernel_rfl
theorem wAll_zer25 : Zero Go.Proofs.Try.prog 25 (.slice none 0 0) := by unfold Zero; kernel_rfl
theorem wAll_zer27 : Zero Go.Proofs.Try.prog 27 (.agg #[(.int .i64 0), (.int .i64 0)]) := by unfold Zero; kernel_rfl
theorem wAll_zer3 : Zero Go.Proofs.Try.prog 3 (.int .i64 0) := by unfold Zero; kernel_rfl

theorem tryWrong_spec (n : Int) (ls : List (List Int)) :
    Spec Go.Proofs.Try.prog 60 [.val (cnf n ls)] (fault (Sp.tryW n ls).1 (Sp.tryW n ls).2) := by
  refine spec_of' Go.Proofs.Try.func60 rfl Go.Proofs.Try.ntmps60 rfl ?_
  refine f_seq ?_
  refine f_region ?_
  refine scons (r_box (ob := 10001) rfl (Sees.of rfl) rfl rfl rfl rfl rfl rfl) ?_
  refine scons (r_alloc (ob := 10002) rfl wAll_zer27 rfl rfl rfl rfl rfl rfl) ?_
  refine snil ?_
  refine f_seq ?_
  refine f_region ?_
  refine scons (CStep.step (PStep.c (p_loadBS rfl wAll_agg24 wAll_siz24 (Sees.of rfl) rfl rfl rfl)) rfl rfl rfl rfl) ?_
  refine scons (CStep.step (c_call rfl wAll_isf39 ⟨_, _, rfl, (Sees.of rfl), rfl, rfl⟩ (check_spec n ls)) rfl rfl rfl rfl) ?_
  refine scons (r_alloc (ob := 10003) rfl wAll_zer27 rfl rfl rfl rfl rfl rfl) ?_
  refine scons (r_storeS rfl wAll_siz27 rfl rfl rfl (Sees.of rfl) rfl (Sees.of rfl) rfl rfl rfl rfl) ?_
  refine snil ?_
  refine f_seq ?_
  refine f_seq ?_
  refine f_region ?_
  refine scons (CStep.step (PStep.c (p_fieldRef rfl wAll_fld27_0 wAll_siz3 rfl (Sees.of rfl) rfl)) rfl rfl rfl rfl) ?_
  refine scons (CStep.step (PStep.c (p_loadB (y := .val _) rfl wAll_agg3 (Sees.of rfl) rfl rfl rfl rfl)) rfl rfl rfl rfl) ?_
  refine scons (CStep.step (PStep.c (p_eql rfl (Sees.of rfl) (Sees.of rfl))) rfl rfl rfl rfl) ?_
  refine scons (CStep.step (PStep.c (p_move (y := .val _) rfl (Sees.of rfl) rfl)) rfl rfl rfl rfl) ?_
  refine scons (CStep.guard rfl rfl rfl (fun hg0 => PStep.c (p_fieldRef rfl wAll_fld24_0 wAll_siz3 rfl (Sees.of rfl) rfl)) rfl rfl rfl rfl rfl) ?_
  refine scons (CStep.guard rfl rfl rfl (fun hg0 => PStep.c (p_loadB (y := .val _) rfl wAll_agg3 (Sees.gv' rfl hg0) rfl rfl rfl rfl)) rfl rfl rfl rfl rfl) ?_
  refine scons (CStep.guard rfl rfl rfl (fun hg0 => PStep.c (p_gtr rfl (Sees.gv' rfl hg0) (Sees.of rfl))) rfl rfl rfl rfl rfl) ?_
  refine scons (CStep.step (PStep.c (p_and rfl (Sees.of rfl) (fun h => Sees.gv' rfl (beq_of_eq h)) (Sees.of rfl))) rfl rfl rfl rfl) ?_
  refine snil ?_
  refine f_cond rfl ?_ ?_
  · intro hc1
    try simp only [bs] at hc1
    refine f_region ?_
    refine scons (CStep.step (PStep.c (p_build rfl wAll_plc27 wAll_zer27 (by decide) wAll_zch27 ⟨_, _, _, rfl, rfl, rfl, (Sees.of rfl), ⟨_, _, _, rfl, rfl, rfl, (Sees.of rfl), rfl⟩⟩ rfl)) rfl rfl rfl rfl) ?_
    refine scons (r_storeS rfl wAll_siz27 rfl rfl rfl (Sees.of rfl) rfl (Sees.of rfl) rfl rfl rfl rfl) ?_
    refine snil ?_
    refine f_seq ?_
    refine f_region ?_
    refine scons (CStep.step (PStep.c (p_loadBS rfl wAll_agg27 wAll_siz27 (Sees.of rfl) rfl rfl rfl)) rfl rfl rfl rfl) ?_
    refine scons (r_storeS rfl wAll_siz27 rfl rfl rfl (Sees.of rfl) rfl (Sees.of rfl) rfl rfl rfl rfl) ?_
    refine snil ?_
    refine f_ret ?_
    refine ends_ret (res_eq (res1 rfl (res_cell (by rfl) rfl rfl wAll_agg27 wAll_siz27 rfl rfl)) ?_)
    rw [Sp.tryW, if_neg (fun h => h hc1.1), if_pos (by omega)]
    all_goals rfl
  · intro hc1
    try simp only [bs] at hc1
    refine f_skip ?_
    refine f_seq ?_
    refine f_region ?_
    refine scons (CStep.step (PStep.c (p_loadBS rfl wAll_agg27 wAll_siz27 (Sees.of rfl) rfl rfl rfl)) rfl rfl rfl rfl) ?_
    refine scons (r_storeS rfl wAll_siz27 rfl rfl rfl (Sees.of rfl) rfl (Sees.of rfl) rfl rfl rfl rfl) ?_
    refine snil ?_
    refine f_ret ?_
    refine ends_ret (res_eq (res1 rfl (res_cell (by rfl) rfl rfl wAll_agg27 wAll_siz27 rfl rfl)) ?_)
    by_cases h : (Sp.check n ls).1 = 0
    · rw [Sp.tryW, if_neg (fun h2 => h2 h), if_neg (by omega), Sp.check_zero h]
      all_goals rfl
    · rw [Sp.tryW, if_pos h]
      all_goals rfl

theorem each_spec (n : Nat) (ls : List (List Int)) : SpecA Go.Proofs.Try.prog 111 [.val (intss ls), iv n] (.clo 144 (chainL [.ptr (di n), .ptr (intss ls)])) := by
  refine specA_of' Go.Proofs.Try.func111 rfl Go.Proofs.Try.ntmps111 rfl ?_
  refine f_seq ?_
  refine f_region ?_
  refine scons (r_box (ob := 10002) rfl (Sees.of rfl) rfl rfl rfl rfl rfl rfl) ?_
  refine scons (r_box (ob := 10003) rfl (Sees.of rfl) rfl rfl rfl rfl rfl rfl) ?_
  refine scons (CStep.step (PStep.c (p_assign (y := .any) rfl (Sees.of rfl) rfl)) rfl rfl rfl rfl) ?_
  refine snil ?_
  refine f_seq ?_
  refine f_region ?_
  refine scons (CStep.step (PStep.c (p_makeFunc (l := [.tmp 3, .tmp 2]) rfl)) rfl rfl rfl rfl) ?_
  refine scons (CStep.step (PStep.c (p_assign (y := .clo _ _) rfl (Sees.of rfl) rfl)) rfl rfl rfl rfl) ?_
  refine snil ?_
  refine f_ret ?_
  exact endsA_ret (resA_clo rfl rfl rfl (sl_cons (sh_ref1 (Sees.of rfl) rfl rfl (sh_of Sees.same rfl)) (sl_cons (sh_ref1 (Sees.of rfl) rfl rfl (sh_of Sees.same rfl)) sl_nil)))

theorem pair_spec  :
    Spec Go.Proofs.Try.prog 40 [] (cnf 2 [[1, 2], [-1]]) := by
  refine spec_of' Go.Proofs.Try.func40 rfl Go.Proofs.Try.ntmps40 rfl ?_
  refine f_seq ?_
  refine f_region ?_
  refine scons (r_alloc (ob := 10000) rfl wAll_zer24 rfl rfl rfl rfl rfl rfl) ?_
  refine snil ?_
  refine f_seq ?_
  refine f_region ?_
  refine scons (CStep.step (c_buildSlice (f := di) (za := 0) (xs := [.const (.int .i64 1), .const (.int .i64 2)]) rfl rfl wAll_isl25 wAll_siz3 wAll_zer3 rfl rfl ⟨_, _, rfl, (Sees.of rfl), rfl, rfl, ⟨_, _, rfl, (Sees.of rfl), rfl, rfl, rfl⟩⟩) rfl rfl rfl rfl) ?_
  refine scons (CStep.step (c_buildSlice (f := di) (za := 0) (xs := [.const (.int .i64 (-1))]) rfl rfl wAll_isl25 wAll_siz3 wAll_zer3 rfl rfl ⟨_, _, rfl, (Sees.of rfl), rfl, rfl, rfl⟩) rfl rfl rfl rfl) ?_
  refine scons (CStep.step (c_buildSlice (f := ints) (za := []) (xs := [.tmp 1, .tmp 2]) rfl rfl wAll_isl22 wAll_siz25 wAll_zer25 rfl rfl ⟨_, _, rfl, (Sees.of rfl), rfl, rfl, ⟨_, _, rfl, (Sees.of rfl), rfl, rfl, rfl⟩⟩) rfl rfl rfl rfl) ?_
  refine scons (CStep.step (PStep.c (p_build rfl wAll_plc24 wAll_zer24 (by decide) wAll_zch24 ⟨_, _, _, rfl, rfl, rfl, (Sees.of rfl), ⟨_, _, _, rfl, rfl, rfl, (Sees.of rfl), rfl⟩⟩ rfl)) rfl rfl rfl rfl) ?_
  refine scons (r_storeS rfl wAll_siz24 rfl rfl rfl (Sees.of rfl) rfl (Sees.of rfl) rfl rfl rfl rfl) ?_
  refine snil ?_
  refine f_ret ?_
  refine ends_ret (res_eq (res1 rfl (res_cell (by rfl) rfl rfl wAll_agg24 wAll_siz24 rfl rfl)) ?_)
  rfl

theorem ModelsR_spec (m : Nat) (ls : List (List Int)) (hm : m ≤ 16) (hG : ∀ l ∈ ls, Sp.Good m l) :
    Spec Go.Proofs.Try.prog 52 [.val (cnf m ls)] (ints (Sp.ofN (Sp.mods m ls))) := by
  refine spec_of' Go.Proofs.Try.func52 rfl Go.Proofs.Try.ntmps52 rfl ?_
  refine f_seq ?_
  have hp16 := Sp.pow16 hm
  have hpw := Sp.pow_ok (m := m) (by omega)
  have hpn := Sp.pow_nat m
  refine f_region ?_
  refine scons (r_box (ob := 10001) rfl (Sees.of rfl) rfl rfl rfl rfl rfl rfl) ?_
  refine scons (CStep.step (PStep.c (p_assign (y := .emp) rfl (Sees.of rfl) rfl)) rfl rfl rfl rfl) ?_
  refine snil ?_
  refine f_seq ?_
  refine f_region ?_
  refine scons (CStep.step (PStep.c (p_assign (y := .emp) rfl (Sees.of rfl) rfl)) rfl rfl rfl rfl) ?_
  refine snil ?_
  refine f_seq ?_
  refine f_seq ?_
  refine f_region ?_
  refine scons (CStep.step (PStep.c (p_assign (y := .val _) rfl (Sees.of rfl) rfl)) rfl rfl rfl rfl) ?_
  refine snil ?_
  refine f_block ?_
  refine f_loop (α := Nat × Nat) (fun (i, u) => i ≤ 2 ^ m) (fun (i, u) => [(4, iv i), (3, .row 20003 u), (20003, .arr u 3 1 8 di 0 (Sp.ofN (Sp.modsTo m ls i))), (1, .ref 10001 0 0), (2, .emp), (10001, .box 0 (.ccons (iv m) (.ccons (.val (intss ls)) .cnil)))]) (fun (i, u) => 2 ^ m - i) (0, 0) ?_ ?_ ?_
  · exact Nat.zero_le _
  · exact Le.trans (GLe.le (g_adopt (ob := 20003) (k := 3) 3 1 8 di 0 rfl rfl rfl rfl)) (le_ofL ⟨rfl, rfl, rfl, rfl, rfl, rfl, trivial⟩ rfl)
  · rintro ⟨i, u⟩ hi
    have hi : i ≤ 2 ^ m := hi
    have hml := Sp.modsTo_len m i ls
    have hol := Sp.ofN_len (Sp.modsTo m ls i)
    refine f_seq ?_
    refine f_seq ?_
    refine f_region ?_
    refine scons (CStep.step (PStep.c (p_move (y := .val _) rfl (Sees.of rfl) rfl)) rfl rfl rfl rfl) ?_
    refine scons (CStep.step (PStep.c (p_fieldRef rfl wAll_fld24_0 wAll_siz3 rfl (Sees.of rfl) rfl)) rfl rfl rfl rfl) ?_
    refine scons (CStep.step (PStep.c (p_loadB (y := .val _) rfl wAll_agg3 (Sees.of rfl) rfl rfl rfl rfl)) rfl rfl rfl rfl) ?_
    refine scons (CStep.step (PStep.c (p_convU rfl wAll_int3 wAll_int58 (Sees.of rfl) (by omega))) rfl rfl rfl rfl) ?_
    refine scons (CStep.step (PStep.c (p_shl rfl (Sees.of rfl) (Sees.of rfl) (by omega) (by omega) (by first | omega | assumption))) rfl rfl rfl rfl) ?_
    rw [hpn]
    refine scons (CStep.step (PStep.c (p_lss rfl (Sees.of rfl) (Sees.of rfl))) rfl rfl rfl rfl) ?_
    refine snil ?_
    refine f_cond rfl ?_ ?_
    · intro hc1
      try simp only [bs] at hc1
      refine f_skip ?_
      refine f_seq ?_
      refine f_block ?_
      refine f_seq ?_
      refine f_draw wAll_mix (by kernel_rfl) ?_
      refine dcons (CStep.step (PStep.c (p_fieldRef rfl wAll_fld24_1 wAll_siz22 rfl (Sees.of rfl) rfl)) rfl rfl rfl rfl) ?_
      refine dcons (CStep.step (PStep.c (p_loadB (y := .val _) rfl wAll_agg22 (Sees.of rfl) rfl rfl rfl rfl)) rfl rfl rfl rfl) ?_
      refine dcons (CStep.step (PStep.c (p_fieldRef rfl wAll_fld24_0 wAll_siz3 rfl (Sees.of rfl) rfl)) rfl rfl rfl rfl) ?_
      refine dcons (CStep.step (PStep.c (p_loadB (y := .val _) rfl wAll_agg3 (Sees.of rfl) rfl rfl rfl rfl)) rfl rfl rfl rfl) ?_
      refine dcons (CStep.step (PStep.c (p_move (y := .val _) rfl (Sees.of rfl) rfl)) rfl rfl rfl rfl) ?_
      refine dcons (CStep.step (c_call rfl wAll_isf36 ⟨_, _, rfl, (Sees.of rfl), rfl, ⟨_, _, rfl, (Sees.of rfl), rfl, rfl⟩⟩ ((bits_spec m i (by omega)).spec false)) rfl rfl rfl rfl) ?_
      refine dcons (CStep.step (c_call rfl wAll_isf20 ⟨_, _, rfl, (Sees.of rfl), rfl, ⟨_, _, rfl, (Sees.of rfl), rfl, rfl⟩⟩ (all_spec (Sp.bits m i) ls (by rw [Sp.bits_length]; exact hG))) rfl rfl rfl rfl) ?_
      refine dnil (by kernel_rfl) ?_
      refine f_cond rfl ?_ ?_
      · intro hc2
        try simp only [bs] at hc2
        refine f_region ?_
        refine scons (CStep.step (PStep.c (p_move (y := .row _ _) rfl (Sees.of rfl) rfl)) rfl rfl rfl rfl) ?_
        refine scons (CStep.step (PStep.c (p_move (y := .val _) rfl (Sees.of rfl) rfl)) rfl rfl rfl rfl) ?_
        refine scons (CStep.step (c_buildSlice (f := di) (za := 0) (xs := [.tmp 21]) rfl rfl wAll_isl25 wAll_siz3 wAll_zer3 rfl rfl ⟨_, _, rfl, (Sees.of rfl), rfl, rfl, rfl⟩) rfl rfl rfl rfl) ?_
        refine scons (r_appendR (ob := 20003) rfl wAll_isl25 wAll_siz3 wAll_byt3 wAll_zer3 rfl rfl (Sees.of rfl) rfl (Sees.of rfl) (by simp only [hol, List.length_cons, List.length_nil]; omega) (by simp only [hol, List.length_cons, List.length_nil]; omega) rfl rfl rfl rfl rfl) ?_
        refine scons (CStep.step (PStep.c (p_assign (y := .row _ _) rfl (Sees.of rfl) rfl)) rfl rfl rfl rfl) ?_
        refine snil ?_
        refine f_nil ?_
        show AWs _ _ _ _ _
        refine f_region ?_
        refine scons (CStep.step (PStep.c (p_move (y := .val _) rfl (Sees.of rfl) rfl)) rfl rfl rfl rfl) ?_
        refine scons (CStep.step (PStep.c (p_add rfl (Sees.of rfl) (Sees.of rfl) (by omega))) rfl rfl rfl rfl) ?_
        refine scons (CStep.step (PStep.c (p_assign (y := .val _) rfl (Sees.of rfl) rfl)) rfl rfl rfl rfl) ?_
        refine snil ?_
        refine f_back ⟨(i + 1, u + 1), ?_, ?_, le_ofL ⟨rfl, rfl, (by rw [Sp.modsTo_yes hc2, Sp.ofN_app]; rfl), rfl, rfl, rfl, trivial⟩ rfl⟩
        · show i + 1 ≤ 2 ^ m
          omega
        · show 2 ^ m - (i + 1) < 2 ^ m - i
          omega
      · intro hc2
        try simp only [bs] at hc2
        refine f_skip ?_
        refine f_nil ?_
        show AWs _ _ _ _ _
        refine f_region ?_
        refine scons (CStep.step (PStep.c (p_move (y := .val _) rfl (Sees.of rfl) rfl)) rfl rfl rfl rfl) ?_
        refine scons (CStep.step (PStep.c (p_add rfl (Sees.of rfl) (Sees.of rfl) (by omega))) rfl rfl rfl rfl) ?_
        refine scons (CStep.step (PStep.c (p_assign (y := .val _) rfl (Sees.of rfl) rfl)) rfl rfl rfl rfl) ?_
        refine snil ?_
        refine f_back ⟨(i + 1, u), ?_, ?_, le_ofL ⟨rfl, rfl, (by rw [Sp.modsTo_no hc2]; rfl), rfl, rfl, rfl, trivial⟩ rfl⟩
        · show i + 1 ≤ 2 ^ m
          omega
        · show 2 ^ m - (i + 1) < 2 ^ m - i
          omega
    · intro hc1
      try simp only [bs] at hc1
      refine f_exit ?_
      show AWs _ _ _ _ _
      refine f_seq ?_
      refine f_region ?_
      refine scons (CStep.step (PStep.c (p_move (y := .row _ _) rfl (Sees.of rfl) rfl)) rfl rfl rfl rfl) ?_
      refine scons (CStep.step (PStep.c (p_assign (y := .row _ _) rfl (Sees.of rfl) rfl)) rfl rfl rfl rfl) ?_
      refine snil ?_
      refine f_ret ?_
      refine ends_ret (res_eq (res1 rfl (res_row rfl rfl rfl)) ?_)
      obtain rfl : i = 2 ^ m := by omega
      rfl

end Go.Um
