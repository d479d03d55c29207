/- Walks of Go functions of this seat, each by its contract. No condition beyond what each theorem says. -/
import Derived.Test.YtofonmfoificjaaWPar3
import Derived.Test.YtofonmfoificjaaSpN
import Derived.Test.YtofonmfoificjaaProg
import Derived.KernelRfl
set_option maxRecDepth 4000
namespace Go.Um
open Go Go.RowKit

theorem wFind_agg102 : IsAgg Go.Proofs.Try.prog 102 false := by unfold IsAgg; kernel_rfl
theorem wFind_agg22 : IsAgg Go.Proofs.Try.prog 22 false := by unfold IsAgg; kernel_rfl
theorem wFind_agg24 : IsAgg Go.Proofs.Try.prog 24 true := by unfold IsAgg; kernel_rfl
theorem wFind_agg25 : IsAgg Go.Proofs.Try.prog 25 false := by unfold IsAgg; kernel_rfl
theorem wFind_agg28 : IsAgg Go.Proofs.Try.prog 28 true := by unfold IsAgg; kernel_rfl
theorem wFind_agg3 : IsAgg Go.Proofs.Try.prog 3 false := by unfold IsAgg; kernel_rfl
theorem wFind_agg4 : IsAgg Go.Proofs.Try.prog 4 false := by unfold IsAgg; kernel_rfl
theorem wFind_agg54 : IsAgg Go.Proofs.Try.prog 54 true := by unfold IsAgg; kernel_rfl
theorem wFind_byt25 : Bytes Go.Proofs.Try.prog 25 24 := by unfold Bytes; kernel_rfl
theorem wFind_byt3 : Bytes Go.Proofs.Try.prog 3 8 := by unfold Bytes; kernel_rfl
theorem wFind_byt54 : Bytes Go.Proofs.Try.prog 54 32 := by unfold Bytes; kernel_rfl
theorem wFind_fld24_1 : IsField Go.Proofs.Try.prog 24 1 1 22 := by unfold IsField; kernel_rfl
theorem wFind_fld28_0 : IsField Go.Proofs.Try.prog 28 0 0 3 := by unfold IsField; kernel_rfl
theorem wFind_isf100 : IsFn Go.Proofs.Try.prog 100 := by unfold IsFn; kernel_rfl
theorem wFind_isf101 : IsFn Go.Proofs.Try.prog 101 := by unfold IsFn; kernel_rfl
theorem wFind_isf102 : IsFn Go.Proofs.Try.prog 102 := by unfold IsFn; kernel_rfl
theorem wFind_isf103 : IsFn Go.Proofs.Try.prog 103 := by unfold IsFn; kernel_rfl
theorem wFind_isf105 : IsFn Go.Proofs.Try.prog 105 := by unfold IsFn; kernel_rfl
theorem wFind_isf107 : IsFn Go.Proofs.Try.prog 107 := by unfold IsFn; kernel_rfl
theorem wFind_isf108 : IsFn Go.Proofs.Try.prog 108 := by unfold IsFn; kernel_rfl
theorem wFind_isf79 : IsFn Go.Proofs.Try.prog 79 := by unfold IsFn; kernel_rfl
theorem wFind_isf95 : IsFn Go.Proofs.Try.prog 95 := by unfold IsFn; kernel_rfl
theorem wFind_isf96 : IsFn Go.Proofs.Try.prog 96 := by unfold IsFn; kernel_rfl
theorem wFind_isf97 : IsFn Go.Proofs.Try.prog 97 := by unfold IsFn; kernel_rfl
theorem wFind_isf98 : IsFn Go.Proofs.Try.prog 98 := by unfold IsFn; kernel_rfl
theorem wFind_isf99 : IsFn Go.Proofs.Try.prog 99 := by unfold IsFn; kernel_rfl
theorem wFind_isl22 : IsSlice Go.Proofs.Try.prog 22 25 := by unfold IsSlice; kernel_rfl
theorem wFind_isl25 : IsSlice Go.Proofs.Try.prog 25 3 := by unfold IsSlice; kernel_rfl
theorem wFind_isl31 : IsSlice Go.Proofs.Try.prog 31 4 := by unfold IsSlice; kernel_rfl
theorem wFind_isl58 : IsSlice Go.Proofs.Try.prog 58 54 := by unfold IsSlice; kernel_rfl
theorem wFind_mix : (Go.Proofs.Try.prog).follows .mixedOrders = true := by kernel_rfl
theorem wFind_plc28 : Places Go.Proofs.Try.prog 28 [(0, 1), (1, 1)] := by unfold Places; kernel_rfl
theorem wFind_plc54 : Places Go.Proofs.Try.prog 54 [(0, 1), (1, 1)] := by unfold Places; kernel_rfl
theorem wFind_siz102 : Size Go.Proofs.Try.prog 102 1 := by unfold Size; kernel_rfl
theorem wFind_siz22 : Size Go.Proofs.Try.prog 22 1 := by unfold Size; kernel_rfl
theorem wFind_siz24 : Size Go.Proofs.Try.prog 24 2 := by unfold Size; kernel_rfl
theorem wFind_siz25 : Size Go.Proofs.Try.prog 25 1 := by unfold Size; kernel_rfl
theorem wFind_siz28 : Size Go.Proofs.Try.prog 28 2 := by unfold Size; kernel_rfl
theorem wFind_siz3 : Size Go.Proofs.Try.prog 3 1 := by unfold Size; kernel_rfl
theorem wFind_siz4 : Size Go.Proofs.Try.prog 4 1 := by unfold Size; kernel_rfl
theorem wFind_siz54 : Size Go.Proofs.Try.prog 54 2 := by unfold Size; kernel_rfl
def wFind_z28 : D := .cons (.int .i64 0) (.cons (.int .i64 0) (.nil))
theorem wFind_zch28 : ∀ (ok : Nat → Prop) (w : World), R Go.Proofs.Try.prog wFind_z28 ok w (Value.cells (.agg #[(.int .i64 0), (.int .i64 0)])).toList := fun _ _ => z_int (z_int (z_nil))
def wFind_z54 : D := .cons (ints []) (.cons (.bool false) (.nil))
theorem wFind_zch54 : ∀ (ok : Nat → Prop) (w : World), R Go.Proofs.Try.prog wFind_z54 ok w (Value.cells (.agg #[(.slice none 0 0), (.bool false)])).toList := fun _ _ => z_list (z_bool (z_nil))
theorem wFind_zer102 : Zero Go.Proofs.Try.prog 102 .nilFunc := by unfold Zero; kernel_rfl
theorem wFind_zer25 : Zero Go.Proofs.Try.prog 25 (.slice none 0 0) := by unfold Zero; kernel_rfl
theorem wFind_zer28 : Zero Go.Proofs.Try.prog 28 (.agg #[(.int .i64 0), (.int .i64 0)]) := by unfold Zero; kernel_rfl
theorem wFind_zer3 : Zero Go.Proofs.Try.prog 3 (.int .i64 0) := by unfold Zero; kernel_rfl
theorem wFind_zer4 : Zero Go.Proofs.Try.prog 4 (.bool false) := by unfold Zero; kernel_rfl
theorem wFind_zer54 : Zero Go.Proofs.Try.prog 54 (.agg #[(.slice none 0 0), (.bool false)]) := by unfold Zero; kernel_rfl

theorem find11_spec (x c : List Int) (hx : x.length ≤ 1000000 ∧ ∀ y ∈ x, -9223372036854775808 < y ∧ y ≤ 9223372036854775807) :
    Spec Go.Proofs.Try.prog 98 [.val (ints x), .ptr (ints c)] (D.bool (decide (Sp.litSort x = c))) := by
  refine spec_of' Go.Proofs.Try.func98 rfl Go.Proofs.Try.ntmps98 rfl ?_
  refine f_seq ?_
  refine f_region ?_
  refine scons (CStep.step (PStep.c (p_assign (y := .val _) rfl (Sees.of rfl) rfl)) rfl rfl rfl rfl) ?_
  refine snil ?_
  refine f_seq ?_
  refine f_draw wFind_mix (by kernel_rfl) ?_
  refine dcons (CStep.step (PStep.c (p_move (y := .val _) rfl (Sees.of rfl) rfl)) rfl rfl rfl rfl) ?_
  refine dcons (CStep.step (c_call rfl wFind_isf100 ⟨_, _, rfl, (Sees.of rfl), rfl, rfl⟩ (sorted_spec x hx.1 hx.2)) rfl rfl rfl rfl) ?_
  refine dcons (CStep.step (PStep.c (p_load rfl wFind_agg25 (Sees.of rfl) rfl)) rfl rfl rfl rfl) ?_
  refine dcons (CStep.step (c_call rfl wFind_isf99 ⟨_, _, rfl, (Sees.of rfl), rfl, ⟨_, _, rfl, (Sees.of rfl), rfl, rfl⟩⟩ (equal_spec _ _)) rfl rfl rfl rfl) ?_
  refine dcons (CStep.step (PStep.c (p_assign (y := .val _) rfl (Sees.of rfl) rfl)) rfl rfl rfl rfl) ?_
  refine dnil (by kernel_rfl) ?_
  refine f_ret ?_
  refine ends_ret (res_eq (res1 rfl (res_tmp rfl (Sees.of rfl))) ?_)
  rfl

theorem find1_spec (c : List Int) (n : Int) (ls : List (List Int)) (hl : ∀ l ∈ ls, l.length ≤ 1000000 ∧ ∀ x ∈ l, -9223372036854775808 < x ∧ x ≤ 9223372036854775807) :
    Spec Go.Proofs.Try.prog 96 [.val (ints c), .ptr (cnf n ls)] (D.bool (Sp.hasC ls c)) := by
  refine spec_of' Go.Proofs.Try.func96 rfl Go.Proofs.Try.ntmps96 rfl ?_
  refine f_seq ?_
  refine f_region ?_
  refine scons (r_box (ob := 10002) rfl (Sees.of rfl) rfl rfl rfl rfl rfl rfl) ?_
  refine scons (CStep.step (PStep.c (p_assign (y := .val _) rfl (Sees.of rfl) rfl)) rfl rfl rfl rfl) ?_
  refine snil ?_
  refine f_seq ?_
  refine f_region ?_
  refine scons (CStep.step (PStep.c (p_fieldAddr rfl wFind_fld24_1 wFind_siz22 (by decide) (Sees.of rfl) rfl rfl)) rfl rfl rfl rfl) ?_
  refine scons (CStep.step (PStep.c (p_load rfl wFind_agg22 (Sees.of rfl) rfl)) rfl rfl rfl rfl) ?_
  refine scons (CStep.step (PStep.c (p_makeFunc (l := [.tmp 2]) rfl)) rfl rfl rfl rfl) ?_
  refine scons (CStep.step (c_callS (q := true) rfl wFind_isf97 (containsII_spec ls (fun x => decide (Sp.litSort x = c)) (fun l => l.length ≤ 1000000 ∧ ∀ x ∈ l, -9223372036854775808 < x ∧ x ≤ 9223372036854775807) hl) (sa_cons (sh_of (Sees.of rfl) rfl) (sa_cons (sh_clo (Sees.of rfl) wFind_isf98 (sl_cons (sh_ref1 Sees.same rfl rfl (sh_of Sees.same rfl)) (sl_nil)) (fun _ => rfl) (fun _ => rfl) (fun y => find11_spec y.1 c y.2)) (sa_nil))) rfl) rfl rfl rfl rfl) ?_
  refine scons (CStep.step (PStep.c (p_assign (y := .val _) rfl (Sees.of rfl) rfl)) rfl rfl rfl rfl) ?_
  refine snil ?_
  refine f_ret ?_
  refine ends_ret (res_eq (res1 rfl (res_tmp rfl (Sees.of rfl))) ?_)
  rfl

theorem find2_spec (a b : List Int) :
    Spec Go.Proofs.Try.prog 106 [.val (ints a), .val (ints b)] (D.bool (decide (a = b))) := by
  refine spec_of' Go.Proofs.Try.func106 rfl Go.Proofs.Try.ntmps106 rfl ?_
  refine f_seq ?_
  refine f_region ?_
  refine scons (CStep.step (PStep.c (p_assign (y := .val _) rfl (Sees.of rfl) rfl)) rfl rfl rfl rfl) ?_
  refine snil ?_
  refine f_seq ?_
  refine f_region ?_
  refine scons (CStep.step (PStep.c (p_move (y := .val _) rfl (Sees.of rfl) rfl)) rfl rfl rfl rfl) ?_
  refine scons (CStep.step (PStep.c (p_move (y := .val _) rfl (Sees.of rfl) rfl)) rfl rfl rfl rfl) ?_
  refine scons (CStep.step (c_call rfl wFind_isf99 ⟨_, _, rfl, (Sees.of rfl), rfl, ⟨_, _, rfl, (Sees.of rfl), rfl, rfl⟩⟩ (equal_spec a b)) rfl rfl rfl rfl) ?_
  refine scons (CStep.step (PStep.c (p_assign (y := .val _) rfl (Sees.of rfl) rfl)) rfl rfl rfl rfl) ?_
  refine snil ?_
  refine f_ret ?_
  refine ends_ret (res_eq (res1 rfl (res_tmp rfl (Sees.of rfl))) ?_)
  rfl

theorem find3_spec (c : List Int) (ls : List (List Int)) :
    Spec Go.Proofs.Try.prog 108 [.val (ints c), .ptr (.fn (α := List Int) (fun z => .cons (ints z) .nil) (fun z => .bool (Sp.hasC ls z)))] (D.bool (!Sp.hasC ls c)) := by
  refine spec_of' Go.Proofs.Try.func108 rfl Go.Proofs.Try.ntmps108 rfl ?_
  refine f_seq ?_
  refine f_region ?_
  refine scons (CStep.step (PStep.c (p_assign (y := .val _) rfl (Sees.of rfl) rfl)) rfl rfl rfl rfl) ?_
  refine snil ?_
  refine f_seq ?_
  refine f_region ?_
  refine scons (CStep.step (PStep.c (p_load rfl wFind_agg102 (Sees.of rfl) rfl)) rfl rfl rfl rfl) ?_
  refine scons (CStep.step (PStep.c (p_move (y := .val _) rfl (Sees.of rfl) rfl)) rfl rfl rfl rfl) ?_
  refine scons (CStep.step (c_callV (q := false) (c) rfl (Sees.of rfl) rfl (sa_cons (sh_of (Sees.of rfl) rfl) (sa_nil)) rfl) rfl rfl rfl rfl) ?_
  refine scons (CStep.step (PStep.c (p_not rfl (Sees.of rfl))) rfl rfl rfl rfl) ?_
  refine scons (CStep.step (PStep.c (p_assign (y := .val _) rfl (Sees.of rfl) rfl)) rfl rfl rfl rfl) ?_
  refine snil ?_
  refine f_ret ?_
  refine ends_ret (res_eq (res1 rfl (res_tmp rfl (Sees.of rfl))) ?_)
  rfl

set_option maxHeartbeats 2000000 in
theorem find_spec (n : Int) (ls : List (List Int)) :
    Spec Go.Proofs.Try.prog 48 [.val (cnf n ls)] (two (pars (Sp.findOf n ls).1) (fault (Sp.findOf n ls).2.1 (Sp.findOf n ls).2.2)) := by
  refine spec_of' Go.Proofs.Try.func48 rfl Go.Proofs.Try.ntmps48 rfl ?_
  refine f_seq ?_
  refine f_region ?_
  refine scons (r_box (ob := 10001) rfl (Sees.of rfl) rfl rfl rfl rfl rfl rfl) ?_
  refine scons (CStep.step (PStep.c (p_assign (y := .emp) rfl (Sees.of rfl) rfl)) rfl rfl rfl rfl) ?_
  refine scons (r_alloc (ob := 10003) rfl wFind_zer28 rfl rfl rfl rfl rfl rfl) ?_
  refine snil ?_
  refine f_seq ?_
  refine f_seq ?_
  refine f_region ?_
  refine scons (CStep.step (PStep.c (p_loadBS rfl wFind_agg24 wFind_siz24 (Sees.of rfl) rfl rfl rfl)) rfl rfl rfl rfl) ?_
  refine scons (CStep.step (c_call rfl wFind_isf95 ⟨_, _, rfl, (Sees.of rfl), rfl, rfl⟩ (ccheck_spec n ls)) rfl rfl rfl rfl) ?_
  refine scons (r_alloc (ob := 10004) rfl wFind_zer28 rfl rfl rfl rfl rfl rfl) ?_
  refine scons (r_storeS rfl wFind_siz28 rfl rfl rfl (Sees.of rfl) rfl (Sees.of rfl) rfl rfl rfl rfl) ?_
  refine snil ?_
  refine f_seq ?_
  refine f_region ?_
  refine scons (CStep.step (PStep.c (p_fieldRef rfl wFind_fld28_0 wFind_siz3 rfl (Sees.of rfl) rfl)) rfl rfl rfl rfl) ?_
  refine scons (CStep.step (PStep.c (p_loadB (y := .val _) rfl wFind_agg3 (Sees.of rfl) rfl rfl rfl rfl)) rfl rfl rfl rfl) ?_
  refine scons (CStep.step (PStep.c (p_neq rfl (Sees.of rfl) (Sees.of rfl))) rfl rfl rfl rfl) ?_
  refine snil ?_
  refine f_cond rfl ?_ ?_
  · intro hc1
    try simp only [bs] at hc1
    refine f_seq ?_
    refine f_draw wFind_mix (by kernel_rfl) ?_
    refine dcons (CStep.step (PStep.c (p_loadBS rfl wFind_agg28 wFind_siz28 (Sees.of rfl) rfl rfl rfl)) rfl rfl rfl rfl) ?_
    refine dcons (CStep.step (PStep.c (p_assign (y := .emp) rfl (Sees.of rfl) rfl)) rfl rfl rfl rfl) ?_
    refine dcons (r_storeS rfl wFind_siz28 rfl rfl rfl (Sees.of rfl) rfl (Sees.of rfl) rfl rfl rfl rfl) ?_
    refine dnil (by kernel_rfl) ?_
    refine f_ret ?_
    refine ends_ret (res_eq (res2 rfl (res_tmp rfl (Sees.emp rfl 2 dPar ([], false))) (res_cell (by rfl) rfl rfl wFind_agg28 wFind_siz28 rfl rfl)) ?_)
    rw [Sp.findOf, if_pos hc1]
    all_goals rfl
  · intro hc1
    try simp only [bs] at hc1
    have hko := Sp.check_ok hc1
    have hll : ls.length ≤ 400 := hko.2.1
    have hl : ∀ l ∈ ls, l.length ≤ 1000000 ∧ ∀ x ∈ l, -9223372036854775808 < x ∧ x ≤ 9223372036854775807 := fun l h => ⟨by have := (hko.2.2 l h).1; omega, fun x hx => by have := Sp.wrong_ok (hko.2.2 l h).2 x hx; omega⟩
    refine f_skip ?_
    refine f_seq ?_
    refine f_region ?_
    refine scons (CStep.step (PStep.c (p_makeFunc (l := [.tmp 1]) rfl)) rfl rfl rfl rfl) ?_
    refine scons (r_alloc (ob := 10005) rfl wFind_zer102 rfl rfl rfl rfl rfl rfl) ?_
    refine scons (r_store rfl wFind_siz102 rfl rfl rfl (Sees.of rfl) rfl rfl (Sees.of rfl) one_clo) ?_
    refine snil ?_
    refine f_seq ?_
    refine f_region ?_
    refine scons (CStep.step (PStep.c (p_assign (y := .emp) rfl (Sees.of rfl) rfl)) rfl rfl rfl rfl) ?_
    refine snil ?_
    refine f_seq ?_
    refine f_seq ?_
    refine f_region ?_
    refine scons (CStep.step (PStep.c (p_fieldRef rfl wFind_fld24_1 wFind_siz22 rfl (Sees.of rfl) rfl)) rfl rfl rfl rfl) ?_
    refine scons (CStep.step (PStep.c (p_loadB (y := .val _) rfl wFind_agg22 (Sees.of rfl) rfl rfl rfl rfl)) rfl rfl rfl rfl) ?_
    refine scons (CStep.step (PStep.c (p_len rfl wFind_isl22 (Sees.of rfl))) rfl rfl rfl rfl) ?_
    refine scons (CStep.step (PStep.c (p_move (y := .val _) rfl (Sees.of rfl) rfl)) rfl rfl rfl rfl) ?_
    refine snil ?_
    refine f_block ?_
    refine f_loop (α := Nat × Nat) (fun (i, u) => i ≤ ls.length) (fun (i, u) => [(28, iv i), (26, .val (intss ls)), (27, iv ls.length), (6, .row 30000 u), (30000, .arr u 25 1 24 ints [] (Sp.setsTo ls i)), (1, .ref 10001 0 0), (10001, .box 0 (.ccons (iv n) (.ccons (.val (intss ls)) .cnil))), (5, .ref 10005 0 0), (10005, .box 0 (.ccons (.clo 96 (.ccons (.ref 10001 0 0) .cnil)) .cnil)), (3, .ref 10003 0 0), (10003, .box 0 (.ccons (iv 0) (.ccons (iv 0) .cnil)))]) (fun (i, u) => ls.length - i) (0, 0) ?_ ?_ ?_
    · exact Nat.zero_le _
    · exact Le.trans (GLe.le (g_adopt (ob := 30000) (k := 6) 25 1 24 ints [] rfl rfl rfl rfl)) (le_ofL ⟨rfl, rfl, rfl, rfl, rfl, rfl, rfl, rfl, rfl, rfl, rfl, trivial⟩ rfl)
    · rintro ⟨i, u⟩ hi
      have hi : i ≤ ls.length := hi
      refine f_seq ?_
      refine f_region ?_
      refine scons (CStep.step (PStep.c (p_lss rfl (Sees.of rfl) (Sees.of rfl))) rfl rfl rfl rfl) ?_
      refine snil ?_
      refine f_seq ?_
      refine f_cond rfl ?_ ?_
      · intro hc2
        try simp only [bs] at hc2
        refine f_skip ?_
        refine f_seq ?_
        refine f_block ?_
        refine f_seq ?_
        refine f_region ?_
        refine scons (CStep.step (PStep.c ((by first | exact p_indexN rfl wFind_isl22 wFind_siz25 (Sees.of rfl) (Sees.of rfl) (by omega) | exact p_index rfl wFind_isl22 wFind_siz25 (Sees.of rfl) (Sees.of rfl) (by omega) (by omega)))) rfl rfl rfl rfl) ?_
        refine scons (CStep.step (PStep.c (p_load rfl wFind_agg25 (Sees.of rfl) rfl)) rfl rfl rfl rfl) ?_
        refine scons (CStep.step (PStep.c (p_assign (y := .val _) rfl (Sees.of rfl) rfl)) rfl rfl rfl rfl) ?_
        refine snil ?_
        refine f_seq ?_
        refine f_seq ?_
        refine f_region ?_
        refine scons (CStep.step (PStep.c (p_move (y := .val _) rfl (Sees.of rfl) rfl)) rfl rfl rfl rfl) ?_
        refine scons (CStep.step (PStep.c (p_len rfl wFind_isl25 (Sees.of rfl))) rfl rfl rfl rfl) ?_
        refine scons (CStep.step (PStep.c (p_lss rfl (Sees.of rfl) (Sees.of rfl))) rfl rfl rfl rfl) ?_
        refine scons (CStep.step (PStep.c (p_move (y := .val _) rfl (Sees.of rfl) rfl)) rfl rfl rfl rfl) ?_
        refine scons (CStep.guard rfl rfl rfl (fun hg0 => PStep.c (p_move (y := .val _) rfl (Sees.of rfl) rfl)) rfl rfl rfl rfl rfl) ?_
        refine scons (CStep.guard rfl rfl rfl (fun hg0 => PStep.c (p_len rfl wFind_isl25 (Sees.gv' rfl hg0))) rfl rfl rfl rfl rfl) ?_
        refine scons (CStep.guard rfl rfl rfl (fun hg0 => PStep.c (p_gtr rfl (Sees.gv' rfl hg0) (Sees.of rfl))) rfl rfl rfl rfl rfl) ?_
        refine scons (CStep.step (PStep.c (p_or rfl (Sees.of rfl) (Sees.of rfl) (fun h => Sees.gv' rfl (beq_of_eq h)))) rfl rfl rfl rfl) ?_
        refine snil ?_
        refine f_cond rfl ?_ ?_
        · intro hc3
          try simp only [bs] at hc3
          refine f_exit ?_
          show AWs _ _ _ _ _
          refine f_region ?_
          refine scons (CStep.step (PStep.c (p_add rfl (Sees.of rfl) (Sees.of rfl) (by omega))) rfl rfl rfl rfl) ?_
          refine scons (CStep.step (PStep.c (p_move (y := .val _) rfl (Sees.of rfl) rfl)) rfl rfl rfl rfl) ?_
          refine snil ?_
          refine f_back ⟨(i + 1, u), ?_, ?_, le_ofL ⟨rfl, rfl, rfl, rfl, (by rw [Sp.setsTo_no (by omega) (by omega)]; rfl), rfl, rfl, rfl, rfl, rfl, rfl, trivial⟩ rfl⟩
          · show i + 1 ≤ ls.length
            omega
          · show ls.length - (i + 1) < ls.length - i
            omega
        · intro hc3
          try simp only [bs] at hc3
          refine f_skip ?_
          refine f_seq ?_
          refine f_region ?_
          refine scons (CStep.step (PStep.c (p_assign (y := .emp) rfl (Sees.of rfl) rfl)) rfl rfl rfl rfl) ?_
          refine snil ?_
          refine f_seq ?_
          refine f_seq ?_
          refine f_region ?_
          refine scons (CStep.step (PStep.c (p_move (y := .val _) rfl (Sees.of rfl) rfl)) rfl rfl rfl rfl) ?_
          refine scons (CStep.step (PStep.c (p_len rfl wFind_isl25 (Sees.of rfl))) rfl rfl rfl rfl) ?_
          refine scons (CStep.step (PStep.c (p_move (y := .val _) rfl (Sees.of rfl) rfl)) rfl rfl rfl rfl) ?_
          refine snil ?_
          refine f_block ?_
          refine f_loop (α := Nat × Nat) (fun (j, w) => j ≤ (ls.getD i []).length) (fun (j, w) => [(42, iv j), (40, .val (ints (ls.getD i []))), (41, iv (ls.getD i []).length), (9, .row 30001 w), (30001, .arr w 3 1 8 di 0 (((ls.getD i []).take j).map Sp.av)), (28, iv i), (26, .val (intss ls)), (27, iv ls.length), (6, .row 30000 u), (30000, .arr u 25 1 24 ints [] (Sp.setsTo ls i)), (1, .ref 10001 0 0), (10001, .box 0 (.ccons (iv n) (.ccons (.val (intss ls)) .cnil))), (5, .ref 10005 0 0), (10005, .box 0 (.ccons (.clo 96 (.ccons (.ref 10001 0 0) .cnil)) .cnil)), (3, .ref 10003 0 0), (10003, .box 0 (.ccons (iv 0) (.ccons (iv 0) .cnil)))]) (fun (j, w) => (ls.getD i []).length - j) (0, 0) ?_ ?_ ?_
          · exact Nat.zero_le _
          · exact Le.trans (GLe.le (g_adopt (ob := 30001) (k := 9) 3 1 8 di 0 rfl rfl rfl rfl)) (le_ofL ⟨rfl, rfl, rfl, rfl, rfl, rfl, rfl, rfl, rfl, rfl, rfl, rfl, rfl, rfl, rfl, rfl, trivial⟩ rfl)
          · rintro ⟨j, w⟩ hj
            have hj : j ≤ (ls.getD i []).length := hj
            have hx24 : (ls.getD i []).length ≤ 24 := (hko.2.2 _ (Sp.getD_mem ls i [] (by omega))).1
            refine f_seq ?_
            refine f_region ?_
            refine scons (CStep.step (PStep.c (p_lss rfl (Sees.of rfl) (Sees.of rfl))) rfl rfl rfl rfl) ?_
            refine snil ?_
            refine f_seq ?_
            refine f_cond rfl ?_ ?_
            · intro hc4
              try simp only [bs] at hc4
              refine f_skip ?_
              refine f_seq ?_
              refine f_block ?_
              refine f_seq ?_
              refine f_region ?_
              refine scons (CStep.step (PStep.c ((by first | exact p_indexN rfl wFind_isl25 wFind_siz3 (Sees.of rfl) (Sees.of rfl) (by omega) | exact p_index rfl wFind_isl25 wFind_siz3 (Sees.of rfl) (Sees.of rfl) (by omega) (by omega)))) rfl rfl rfl rfl) ?_
              refine scons (CStep.step (PStep.c (p_load rfl wFind_agg3 (Sees.of rfl) rfl)) rfl rfl rfl rfl) ?_
              refine scons (CStep.step (PStep.c (p_assign (y := .val _) rfl (Sees.of rfl) rfl)) rfl rfl rfl rfl) ?_
              refine snil ?_
              refine f_region ?_
              refine scons (CStep.step (PStep.c (p_move (y := .row _ _) rfl (Sees.of rfl) rfl)) rfl rfl rfl rfl) ?_
              refine scons (CStep.step (PStep.c (p_move (y := .val _) rfl (Sees.of rfl) rfl)) rfl rfl rfl rfl) ?_
              refine scons (CStep.step (c_call rfl wFind_isf101 ⟨_, _, rfl, (Sees.of rfl), rfl, rfl⟩ (var_spec ((ls.getD i []).getD j 0) ((hl _ (Sp.getD_mem ls i [] (by omega))).2 _ (Sp.getD_mem (ls.getD i []) j 0 (by omega))))) rfl rfl rfl rfl) ?_
              refine scons (CStep.step (c_buildSlice (f := di) (za := 0) (xs := [.tmp 48]) rfl rfl wFind_isl25 wFind_siz3 wFind_zer3 rfl rfl ⟨_, _, rfl, (Sees.of rfl), rfl, rfl, rfl⟩) rfl rfl rfl rfl) ?_
              refine scons (r_appendR (ob := 30001) rfl wFind_isl25 wFind_siz3 wFind_byt3 wFind_zer3 rfl rfl (Sees.of rfl) rfl (Sees.of rfl) (by  simp only [List.length_append, List.length_map, List.length_take, List.length_cons, List.length_nil]; omega) (by  simp only [List.length_append, List.length_map, List.length_take, List.length_cons, List.length_nil]; omega) rfl rfl rfl rfl rfl) ?_
              refine scons (CStep.step (PStep.c (p_assign (y := .row _ _) rfl (Sees.of rfl) rfl)) rfl rfl rfl rfl) ?_
              refine snil ?_
              refine f_nil ?_
              show AWs _ _ _ _ _
              refine f_region ?_
              refine scons (CStep.step (PStep.c (p_add rfl (Sees.of rfl) (Sees.of rfl) (by omega))) rfl rfl rfl rfl) ?_
              refine scons (CStep.step (PStep.c (p_move (y := .val _) rfl (Sees.of rfl) rfl)) rfl rfl rfl rfl) ?_
              refine snil ?_
              refine f_back ⟨(j + 1, w + 1), ?_, ?_, le_ofL ⟨rfl, rfl, rfl, rfl, (by rw [Sp.take_getD (ls.getD i []) j 0 (by omega), List.map_append]; rfl), rfl, rfl, rfl, rfl, rfl, rfl, rfl, rfl, rfl, rfl, rfl, trivial⟩ rfl⟩
              · show j + 1 ≤ (ls.getD i []).length
                omega
              · show (ls.getD i []).length - (j + 1) < (ls.getD i []).length - j
                omega
            · intro hc4
              try simp only [bs] at hc4
              refine f_exit ?_
              show AWs _ _ _ _ _
              refine f_seq ?_
              refine f_region ?_
              refine scons (CStep.step (PStep.c (p_move (y := .row _ _) rfl (Sees.of rfl) rfl)) rfl rfl rfl rfl) ?_
              refine scons (r_callB rfl wFind_isf102 (sortJ_spec Go.Proofs.Try.laySort w 3 8 (((ls.getD i []).take j).map Sp.av)) ⟨_, _, rfl, (Sees.of rfl), rfl⟩ ⟨rfl, trivial⟩ rfl rfl rfl rfl rfl rfl) ?_
              refine snil ?_
              refine f_region ?_
              refine scons (CStep.step (PStep.c (p_move (y := .row _ _) rfl (Sees.of rfl) rfl)) rfl rfl rfl rfl) ?_
              refine scons (CStep.step (PStep.c (p_move (y := .row _ _) rfl (Sees.of rfl) rfl)) rfl rfl rfl rfl) ?_
              refine scons (LStep.pre (g_freeze (k := 55) (o1 := 30001) rfl rfl rfl rfl) (CStep.step (c_buildSlice (f := ints) (za := []) (xs := [.tmp 55]) rfl rfl wFind_isl22 wFind_siz25 wFind_zer25 rfl rfl ⟨_, _, rfl, (Sees.of rfl), rfl, rfl, rfl⟩) rfl rfl rfl rfl)) ?_
              refine scons (r_appendR (ob := 30000) rfl wFind_isl22 wFind_siz25 wFind_byt25 wFind_zer25 rfl rfl (Sees.of rfl) rfl (Sees.of rfl) (by have := Sp.setsTo_len ls i; simp only [List.length_append, List.length_map, List.length_take, List.length_cons, List.length_nil]; omega) (by have := Sp.setsTo_len ls i; simp only [List.length_append, List.length_map, List.length_take, List.length_cons, List.length_nil]; omega) rfl rfl rfl rfl rfl) ?_
              refine scons (CStep.step (PStep.c (p_assign (y := .row _ _) rfl (Sees.of rfl) rfl)) rfl rfl rfl rfl) ?_
              refine snil ?_
              refine f_nil ?_
              show AWs _ _ _ _ _
              refine f_region ?_
              refine scons (CStep.step (PStep.c (p_add rfl (Sees.of rfl) (Sees.of rfl) (by omega))) rfl rfl rfl rfl) ?_
              refine scons (CStep.step (PStep.c (p_move (y := .val _) rfl (Sees.of rfl) rfl)) rfl rfl rfl rfl) ?_
              refine snil ?_
              refine f_back ⟨(i + 1, u + 1), ?_, ?_, le_ofL ⟨rfl, rfl, rfl, rfl, (by rw [Sp.setsTo_yes (by omega) (by omega), Sp.vset_take (j := j) (by omega)]; rfl), rfl, rfl, rfl, rfl, rfl, rfl, trivial⟩ rfl⟩
              · show i + 1 ≤ ls.length
                omega
              · show ls.length - (i + 1) < ls.length - i
                omega
      · intro hc2
        try simp only [bs] at hc2
        refine f_exit ?_
        show AWs _ _ _ _ _
        refine f_seq ?_
        refine f_region ?_
        refine scons (CStep.step (PStep.c (p_move (y := .row _ _) rfl (Sees.of rfl) rfl)) rfl rfl rfl rfl) ?_
        refine scons (r_callB rfl wFind_isf103 (sortFc_spec Go.Proofs.Try.laySFII ints [] (fun _ => True) (Sp.cmpL Sp.cmpI) (fun _ => rfl) (by rw [ltOf_int]; exact lt_swo Sp.lt_int.list) (by rw [ltOf_int]; exact Sp.lt_int.list.tot) (F := 104) (by unfold IsFn; kernel_rfl) (fun x y _ _ => cmpI2_spec x y) u 25 24 (Sp.setsTo ls i) ((Sp.setsTo ls i).mergeSort fun x y => !Sp.ltL Sp.lti y x) (by rw [ltOf_int]) (fun _ _ => trivial)) ⟨_, _, rfl, (Sees.of rfl), ⟨_, _, rfl, (Sees.of rfl), rfl⟩⟩ ⟨rfl, trivial⟩ rfl rfl rfl rfl rfl rfl) ?_
        refine snil ?_
        refine f_seq ?_
        refine f_region ?_
        refine scons (CStep.step (PStep.c (p_move (y := .row _ _) rfl (Sees.of rfl) rfl)) rfl rfl rfl rfl) ?_
        refine scons (r_callB rfl wFind_isf105 ((show SpecB Go.Proofs.Try.prog 105 [.row 30000 u, .clo 106 .cnil] [(30000, .arr u 25 1 24 ints [] ((Sp.setsTo ls i).mergeSort fun x y => !Sp.ltL Sp.lti y x))] (intss (Sp.sets ls)) [(30000, .dead u)] from by rw [← Sp.setsTo_end ls (i := i) (by omega)]; exact (compactF_spec u ((Sp.setsTo ls i).mergeSort fun x y => !Sp.ltL Sp.lti y x) (by rw [List.length_mergeSort]; have := Sp.setsTo_len ls i; omega)).clo2 (by unfold IsFn; kernel_rfl) (fun _ => rfl) (fun p => find2_spec p.1 p.2))) ⟨_, _, rfl, (Sees.of rfl), ⟨_, _, rfl, (Sees.of rfl), rfl⟩⟩ ⟨rfl, trivial⟩ rfl rfl rfl rfl rfl rfl) ?_
        refine scons (CStep.step (PStep.c (p_assign (y := .val _) rfl (Sees.of rfl) rfl)) rfl rfl rfl rfl) ?_
        refine snil ?_
        refine f_seq ?_
        refine f_region ?_
        refine scons (CStep.step (PStep.c (p_assign (y := .emp) rfl (Sees.of rfl) rfl)) rfl rfl rfl rfl) ?_
        refine snil ?_
        refine f_seq ?_
        refine f_seq ?_
        refine f_region ?_
        refine scons (CStep.step (PStep.c (p_move (y := .val _) rfl (Sees.of rfl) rfl)) rfl rfl rfl rfl) ?_
        refine scons (CStep.step (PStep.c (p_len rfl wFind_isl22 (Sees.of rfl))) rfl rfl rfl rfl) ?_
        refine scons (CStep.step (PStep.c (p_move (y := .val _) rfl (Sees.of rfl) rfl)) rfl rfl rfl rfl) ?_
        refine snil ?_
        refine f_block ?_
        refine f_loop (α := Nat × Nat) (fun (a, v) => a ≤ (Sp.sets ls).length) (fun (a, v) => [(65, iv a), (63, .val (intss (Sp.sets ls))), (64, iv (Sp.sets ls).length), (12, .row 30002 v), (30002, .arr v 54 2 32 dPar ([], false) (Sp.findTo ls a)), (1, .ref 10001 0 0), (10001, .box 0 (.ccons (iv n) (.ccons (.val (intss ls)) .cnil))), (5, .ref 10005 0 0), (10005, .box 0 (.ccons (.clo 96 (.ccons (.ref 10001 0 0) .cnil)) .cnil)), (3, .ref 10003 0 0), (10003, .box 0 (.ccons (iv 0) (.ccons (iv 0) .cnil)))]) (fun (a, v) => (Sp.sets ls).length - a) (0, 0) ?_ ?_ ?_
        · exact Nat.zero_le _
        · exact Le.trans (GLe.le (g_adopt (ob := 30002) (k := 12) 54 2 32 dPar ([], false) rfl rfl rfl rfl)) (le_ofL ⟨rfl, rfl, rfl, rfl, rfl, rfl, rfl, rfl, rfl, rfl, rfl, trivial⟩ rfl)
        · rintro ⟨a, v⟩ ha
          have ha : a ≤ (Sp.sets ls).length := ha
          have hsl := Sp.sets_len ls
          refine f_seq ?_
          refine f_region ?_
          refine scons (CStep.step (PStep.c (p_lss rfl (Sees.of rfl) (Sees.of rfl))) rfl rfl rfl rfl) ?_
          refine snil ?_
          refine f_seq ?_
          refine f_cond rfl ?_ ?_
          · intro hc5
            try simp only [bs] at hc5
            refine f_skip ?_
            refine f_seq ?_
            refine f_block ?_
            refine f_seq ?_
            refine f_region ?_
            refine scons (CStep.step (PStep.c ((by first | exact p_indexN rfl wFind_isl22 wFind_siz25 (Sees.of rfl) (Sees.of rfl) (by omega) | exact p_index rfl wFind_isl22 wFind_siz25 (Sees.of rfl) (Sees.of rfl) (by omega) (by omega)))) rfl rfl rfl rfl) ?_
            refine scons (CStep.step (PStep.c (p_load rfl wFind_agg25 (Sees.of rfl) rfl)) rfl rfl rfl rfl) ?_
            refine scons (CStep.step (PStep.c (p_assign (y := .val _) rfl (Sees.of rfl) rfl)) rfl rfl rfl rfl) ?_
            refine snil ?_
            refine f_seq ?_
            refine f_region ?_
            refine scons (CStep.step (c_buildSlice (f := D.bool) (za := false) (xs := [.const (.bool false), .const (.bool true)]) rfl rfl wFind_isl31 wFind_siz4 wFind_zer4 rfl rfl ⟨_, _, rfl, (Sees.of rfl), rfl, rfl, ⟨_, _, rfl, (Sees.of rfl), rfl, rfl, rfl⟩⟩) rfl rfl rfl rfl) ?_
            refine scons (CStep.step (PStep.c (p_len rfl wFind_isl31 (Sees.of rfl))) rfl rfl rfl rfl) ?_
            refine scons (CStep.step (PStep.c (p_move (y := .val _) rfl (Sees.of rfl) rfl)) rfl rfl rfl rfl) ?_
            refine snil ?_
            refine f_block ?_
            refine f_loop (α := Nat × Nat) (fun (b, q) => b ≤ 2) (fun (b, q) => [(71, iv b), (69, .val (bools [false, true])), (70, iv 2), (14, .val (ints ((Sp.sets ls).getD a []))), (65, iv a), (63, .val (intss (Sp.sets ls))), (64, iv (Sp.sets ls).length), (12, .row 30002 q), (30002, .arr q 54 2 32 dPar ([], false) (Sp.findTo ls a ++ Sp.oddsTo ls ((Sp.sets ls).getD a []) b)), (1, .ref 10001 0 0), (10001, .box 0 (.ccons (iv n) (.ccons (.val (intss ls)) .cnil))), (5, .ref 10005 0 0), (10005, .box 0 (.ccons (.clo 96 (.ccons (.ref 10001 0 0) .cnil)) .cnil)), (3, .ref 10003 0 0), (10003, .box 0 (.ccons (iv 0) (.ccons (iv 0) .cnil)))]) (fun (b, q) => 2 - b) (0, v) ?_ ?_ ?_
            · exact Nat.zero_le _
            · exact le_ofL ⟨rfl, rfl, rfl, rfl, rfl, rfl, rfl, rfl, (by show _ = AV.arr _ _ _ _ _ _ (Sp.findTo ls a ++ []); rw [List.append_nil]; rfl), rfl, rfl, rfl, rfl, rfl, rfl, trivial⟩ rfl
            · rintro ⟨b, q⟩ hb
              have hb : b ≤ 2 := hb
              have hsu := Sp.sets_use hc1 (Sp.getD_mem (Sp.sets ls) a [] (by omega))
              refine f_seq ?_
              refine f_region ?_
              refine scons (CStep.step (PStep.c (p_lss rfl (Sees.of rfl) (Sees.of rfl))) rfl rfl rfl rfl) ?_
              refine snil ?_
              refine f_seq ?_
              refine f_cond rfl ?_ ?_
              · intro hc6
                try simp only [bs] at hc6
                refine f_skip ?_
                refine f_seq ?_
                refine f_block ?_
                refine f_seq ?_
                refine f_region ?_
                refine scons (CStep.step (PStep.c ((by first | exact p_indexN rfl wFind_isl31 wFind_siz4 (Sees.of rfl) (Sees.of rfl) (by omega) | exact p_index rfl wFind_isl31 wFind_siz4 (Sees.of rfl) (Sees.of rfl) (by omega) (by omega)))) rfl rfl rfl rfl) ?_
                refine scons (CStep.step (PStep.c (p_load rfl wFind_agg4 (Sees.of rfl) rfl)) rfl rfl rfl rfl) ?_
                refine scons (CStep.step (PStep.c (p_assign (y := .val _) rfl (Sees.of rfl) rfl)) rfl rfl rfl rfl) ?_
                refine snil ?_
                refine f_seq ?_
                refine f_region ?_
                refine scons (CStep.step (PStep.c (p_move (y := .val _) rfl (Sees.of rfl) rfl)) rfl rfl rfl rfl) ?_
                refine scons (r_callS (q := false) (ob := 10076) 0 rfl wFind_isf107 (cloneI_spec ((Sp.sets ls).getD a []) (by omega)) (sa_cons (sh_of (Sees.of rfl) rfl) (sa_nil)) (.inl rfl) rfl rfl rfl rfl rfl) ?_
                refine scons (CStep.step (PStep.c (p_move (y := .val _) rfl (Sees.of rfl) rfl)) rfl rfl rfl rfl) ?_
                refine scons (LStep.pre (g_freeze (k := 76) (o1 := 10076) rfl rfl rfl rfl) (CStep.step (PStep.c (p_build rfl wFind_plc54 wFind_zer54 (by decide) wFind_zch54 ⟨_, _, _, rfl, rfl, rfl, (Sees.of rfl), ⟨_, _, _, rfl, rfl, rfl, (Sees.of rfl), rfl⟩⟩ rfl)) rfl rfl rfl rfl)) ?_
                refine scons (r_alloc (ob := 10017) rfl wFind_zer54 rfl rfl rfl rfl rfl rfl) ?_
                refine scons (r_storeS rfl wFind_siz54 rfl rfl rfl (Sees.of rfl) rfl (Sees.of rfl) rfl rfl rfl rfl) ?_
                refine snil ?_
                refine f_seq ?_
                refine f_region ?_
                refine scons (CStep.step (PStep.c (p_loadBS rfl wFind_agg54 wFind_siz54 (Sees.of rfl) rfl rfl rfl)) rfl rfl rfl rfl) ?_
                refine scons (CStep.step (c_call rfl wFind_isf79 ⟨_, _, rfl, (Sees.of rfl), rfl, rfl⟩ (parClauses_spec (((Sp.sets ls).getD a []), [false, true].getD b false) (by dsimp only; omega) (fun v hv => by have := hsu.2 v hv; omega))) rfl rfl rfl rfl) ?_
                refine scons (CStep.step (PStep.c (p_makeFunc (l := [.tmp 5]) rfl)) rfl rfl rfl rfl) ?_
                refine scons (CStep.step (c_callS (q := true) rfl wFind_isf97 (containsII_spec (Sp.parCl (((Sp.sets ls).getD a []), [false, true].getD b false)) (fun c => !Sp.hasC ls c) (fun _ => True) (fun _ _ => trivial)) (sa_cons (sh_of (Sees.of rfl) rfl) (sa_cons (sh_clo (Sees.of rfl) wFind_isf108 (sl_cons (sh_ref1 Sees.same rfl rfl (sh_clo Sees.same wFind_isf96 (sl_cons (sh_refS Sees.same rfl (shc_cons (sh_of Sees.same rfl) (shc_cons (sh_of Sees.same rfl) (shc_nil)))) (sl_nil)) (fun _ => rfl) (fun _ => rfl) (fun (y : List Int) => (show Spec _ _ (cAV ((fun z : List Int => D.cons (ints z) D.nil) y) ++ [.ptr (cnf n ls)]) ((fun z : List Int => D.bool (Sp.hasC ls z)) y) from find1_spec y n ls hl)))) (sl_nil)) (fun _ => rfl) (fun _ => rfl) (fun y => find3_spec y.1 ls)) (sa_nil))) rfl) rfl rfl rfl rfl) ?_
                refine scons (CStep.step (PStep.c (p_not rfl (Sees.of rfl))) rfl rfl rfl rfl) ?_
                refine snil ?_
                refine f_cond rfl ?_ ?_
                · intro hc7
                  try simp only [bs] at hc7
                  refine f_region ?_
                  refine scons (CStep.step (PStep.c (p_move (y := .row _ _) rfl (Sees.of rfl) rfl)) rfl rfl rfl rfl) ?_
                  refine scons (CStep.step (PStep.c (p_loadBS rfl wFind_agg54 wFind_siz54 (Sees.of rfl) rfl rfl rfl)) rfl rfl rfl rfl) ?_
                  refine scons (CStep.step (c_buildSlice (f := dPar) (za := ([], false)) (xs := [.tmp 85]) rfl rfl wFind_isl58 wFind_siz54 wFind_zer54 rfl rfl ⟨(_, _), _, rfl, (Sees.of rfl), rfl, rfl, rfl⟩) rfl rfl rfl rfl) ?_
                  refine scons (r_appendR (ob := 30002) rfl wFind_isl58 wFind_siz54 wFind_byt54 wFind_zer54 rfl rfl (Sees.of rfl) rfl (Sees.of rfl) (by have := Sp.findTo_len ls a (by omega); have h9 := Sp.odds_len ls ((Sp.sets ls).getD a []) b; simp only [List.length_append, List.length_map, List.length_take, List.length_cons, List.length_nil]; omega) (by have := Sp.findTo_len ls a (by omega); have h9 := Sp.odds_len ls ((Sp.sets ls).getD a []) b; simp only [List.length_append, List.length_map, List.length_take, List.length_cons, List.length_nil]; omega) rfl rfl rfl rfl rfl) ?_
                  refine scons (CStep.step (PStep.c (p_assign (y := .row _ _) rfl (Sees.of rfl) rfl)) rfl rfl rfl rfl) ?_
                  refine snil ?_
                  refine f_nil ?_
                  show AWs _ _ _ _ _
                  refine f_region ?_
                  refine scons (CStep.step (PStep.c (p_add rfl (Sees.of rfl) (Sees.of rfl) (by omega))) rfl rfl rfl rfl) ?_
                  refine scons (CStep.step (PStep.c (p_move (y := .val _) rfl (Sees.of rfl) rfl)) rfl rfl rfl rfl) ?_
                  refine snil ?_
                  refine f_back ⟨(b + 1, q + 1), ?_, ?_, le_ofL ⟨rfl, rfl, rfl, rfl, rfl, rfl, rfl, rfl, (by rw [Sp.odds_yes (by omega) (Sp.okP_yes hc7), ← List.append_assoc]; rfl), rfl, rfl, rfl, rfl, rfl, rfl, trivial⟩ rfl⟩
                  · show b + 1 ≤ 2
                    omega
                  · show 2 - (b + 1) < 2 - b
                    omega
                · intro hc7
                  try simp only [bs] at hc7
                  refine f_skip ?_
                  refine f_nil ?_
                  show AWs _ _ _ _ _
                  refine f_region ?_
                  refine scons (CStep.step (PStep.c (p_add rfl (Sees.of rfl) (Sees.of rfl) (by omega))) rfl rfl rfl rfl) ?_
                  refine scons (CStep.step (PStep.c (p_move (y := .val _) rfl (Sees.of rfl) rfl)) rfl rfl rfl rfl) ?_
                  refine snil ?_
                  refine f_back ⟨(b + 1, q), ?_, ?_, le_ofL ⟨rfl, rfl, rfl, rfl, rfl, rfl, rfl, rfl, (by rw [Sp.odds_no (by omega) (Sp.okP_no hc7)]; rfl), rfl, rfl, rfl, rfl, rfl, rfl, trivial⟩ rfl⟩
                  · show b + 1 ≤ 2
                    omega
                  · show 2 - (b + 1) < 2 - b
                    omega
              · intro hc6
                try simp only [bs] at hc6
                refine f_exit ?_
                show AWs _ _ _ _ _
                refine f_nil ?_
                show AWs _ _ _ _ _
                refine f_region ?_
                refine scons (CStep.step (PStep.c (p_add rfl (Sees.of rfl) (Sees.of rfl) (by omega))) rfl rfl rfl rfl) ?_
                refine scons (CStep.step (PStep.c (p_move (y := .val _) rfl (Sees.of rfl) rfl)) rfl rfl rfl rfl) ?_
                refine snil ?_
                obtain rfl : b = 2 := by omega
                refine f_back ⟨(a + 1, q), ?_, ?_, le_ofL ⟨rfl, rfl, rfl, rfl, (by rw [Sp.findTo_succ (by omega)]; rfl), rfl, rfl, rfl, rfl, rfl, rfl, trivial⟩ rfl⟩
                · show a + 1 ≤ (Sp.sets ls).length
                  omega
                · show (Sp.sets ls).length - (a + 1) < (Sp.sets ls).length - a
                  omega
          · intro hc5
            try simp only [bs] at hc5
            refine f_exit ?_
            show AWs _ _ _ _ _
            refine f_seq ?_
            refine f_region ?_
            refine scons (CStep.step (PStep.c (p_move (y := .row _ _) rfl (Sees.of rfl) rfl)) rfl rfl rfl rfl) ?_
            refine scons (CStep.step (PStep.c (p_build rfl wFind_plc28 wFind_zer28 (by decide) wFind_zch28 rfl rfl)) rfl rfl rfl rfl) ?_
            refine scons (CStep.step (PStep.c (p_assign (y := .row _ _) rfl (Sees.of rfl) rfl)) rfl rfl rfl rfl) ?_
            refine scons (r_storeS rfl wFind_siz28 rfl rfl rfl (Sees.of rfl) rfl (Sees.of rfl) rfl rfl rfl rfl) ?_
            refine snil ?_
            refine f_ret ?_
            refine ends_ret (res_eq (res2 rfl (res_row rfl rfl rfl) (res_cell (by rfl) rfl rfl wFind_agg28 wFind_siz28 rfl rfl)) ?_)
            obtain rfl : a = (Sp.sets ls).length := by omega
            rw [Sp.findOf, if_neg (fun h => h hc1)]
            all_goals rfl

end Go.Um
