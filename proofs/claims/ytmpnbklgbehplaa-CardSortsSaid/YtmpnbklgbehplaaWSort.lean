/- Walks of Go functions of this seat, each by its contract. No condition beyond what each theorem says. -/
import Derived.Test.YtmpnbklgbehplaaEff
import Derived.Test.YtmpnbklgbehplaaWCard
import Derived.Test.YtmpnbklgbehplaaSp4
import Derived.Test.YtmpnbklgbehplaaSp6
import Derived.Test.YtmpnbklgbehplaaSv2
import Derived.Test.YtmpnbklgbehplaaProg
import Derived.KernelRfl
set_option maxRecDepth 4000
namespace Go.Um
open Go Go.RowKit

theorem wSort_agg24 : IsAgg Go.Proofs.Try.prog 24 false := by unfold IsAgg; kernel_rfl
theorem wSort_agg26 : IsAgg Go.Proofs.Try.prog 26 true := by unfold IsAgg; kernel_rfl
theorem wSort_agg28 : IsAgg Go.Proofs.Try.prog 28 true := by unfold IsAgg; kernel_rfl
theorem wSort_agg3 : IsAgg Go.Proofs.Try.prog 3 false := by unfold IsAgg; kernel_rfl
theorem wSort_byt22 : Bytes Go.Proofs.Try.prog 22 24 := by unfold Bytes; kernel_rfl
theorem wSort_byt3 : Bytes Go.Proofs.Try.prog 3 8 := by unfold Bytes; kernel_rfl
theorem wSort_fld26_0 : IsField Go.Proofs.Try.prog 26 0 0 3 := by unfold IsField; kernel_rfl
theorem wSort_fld26_1 : IsField Go.Proofs.Try.prog 26 1 1 24 := by unfold IsField; kernel_rfl
theorem wSort_fld28_0 : IsField Go.Proofs.Try.prog 28 0 0 3 := by unfold IsField; kernel_rfl
theorem wSort_isf53 : IsFn Go.Proofs.Try.prog 53 := by unfold IsFn; kernel_rfl
theorem wSort_isf54 : IsFn Go.Proofs.Try.prog 54 := by unfold IsFn; kernel_rfl
theorem wSort_isl22 : IsSlice Go.Proofs.Try.prog 22 3 := by unfold IsSlice; kernel_rfl
theorem wSort_isl24 : IsSlice Go.Proofs.Try.prog 24 22 := by unfold IsSlice; kernel_rfl
theorem wSort_mix : (Go.Proofs.Try.prog).follows .mixedOrders = true := by kernel_rfl
theorem wSort_plc26 : Places Go.Proofs.Try.prog 26 [(0, 1), (1, 1)] := by unfold Places; kernel_rfl
theorem wSort_plc28 : Places Go.Proofs.Try.prog 28 [(0, 1), (1, 1)] := by unfold Places; kernel_rfl
theorem wSort_siz22 : Size Go.Proofs.Try.prog 22 1 := by unfold Size; kernel_rfl
theorem wSort_siz24 : Size Go.Proofs.Try.prog 24 1 := by unfold Size; kernel_rfl
theorem wSort_siz26 : Size Go.Proofs.Try.prog 26 2 := by unfold Size; kernel_rfl
theorem wSort_siz28 : Size Go.Proofs.Try.prog 28 2 := by unfold Size; kernel_rfl
theorem wSort_siz3 : Size Go.Proofs.Try.prog 3 1 := by unfold Size; kernel_rfl
def wSort_z26 : D := .cons (.int .i64 0) (.cons (intss []) (.nil))
theorem wSort_zch26 : ∀ (ok : Nat → Prop) (w : World), R Go.Proofs.Try.prog wSort_z26 ok w (Value.cells (.agg #[(.int .i64 0), (.slice none 0 0)])).toList := fun _ _ => z_int (z_list (z_nil))
def wSort_z28 : D := .cons (.int .i64 0) (.cons (.int .i64 0) (.nil))
theorem wSort_zch28 : ∀ (ok : Nat → Prop) (w : World), R Go.Proofs.Try.prog wSort_z28 ok w (Value.cells (.agg #[(.int .i64 0), (.int .i64 0)])).toList := fun _ _ => z_int (z_int (z_nil))
theorem wSort_zer22 : Zero Go.Proofs.Try.prog 22 (.slice none 0 0) := by unfold Zero; kernel_rfl
theorem wSort_zer26 : Zero Go.Proofs.Try.prog 26 (.agg #[(.int .i64 0), (.slice none 0 0)]) := by unfold Zero; kernel_rfl
theorem wSort_zer28 : Zero Go.Proofs.Try.prog 28 (.agg #[(.int .i64 0), (.int .i64 0)]) := by unfold Zero; kernel_rfl
theorem wSort_zer3 : Zero Go.Proofs.Try.prog 3 (.int .i64 0) := by unfold Zero; kernel_rfl

theorem add_spec (c : List Int) (v : Int) (cs : List (List Int)) (u p : Nat) (hl : cs.length ≤ 1000000) :
    SpecB Go.Proofs.Try.prog 54 [.val (ints c), .ref 30000 u 0] [(30000, .box u (.ccons (iv v) (.ccons (.row 30001 p) .cnil))), (30001, .arr p 22 1 24 ints [] cs)] (D.tup .nil) [(30000, .box u (.ccons (iv v) (.ccons (.row 30001 (p + 1)) .cnil))), (30001, .arr (p + 1) 22 1 24 ints [] (cs ++ [c]))] := by
  refine specB_of' Go.Proofs.Try.func54 rfl Go.Proofs.Try.ntmps54 rfl rfl rfl ?_
  refine f_region ?_
  refine scons (CStep.step (PStep.c (p_fieldRef rfl wSort_fld26_1 wSort_siz24 rfl (Sees.of rfl) rfl)) rfl rfl rfl rfl) ?_
  refine scons (CStep.step (PStep.c (p_loadB (y := .row _ _) rfl wSort_agg24 (Sees.of rfl) rfl rfl rfl rfl)) rfl rfl rfl rfl) ?_
  refine scons (CStep.step (PStep.c (p_move (y := .val _) rfl (Sees.of rfl) rfl)) rfl rfl rfl rfl) ?_
  refine scons (CStep.step (c_buildSlice (f := ints) (za := []) (xs := [.tmp 5]) rfl rfl wSort_isl24 wSort_siz22 wSort_zer22 rfl rfl ⟨_, _, rfl, (Sees.of rfl), rfl, rfl, rfl⟩) rfl rfl rfl rfl) ?_
  refine scons (r_appendR (ob := 30001) rfl wSort_isl24 wSort_siz22 wSort_byt22 wSort_zer22 rfl rfl (Sees.of rfl) rfl (Sees.of rfl) (by simp only [List.length_cons, List.length_nil, List.length_append]; omega) (by simp only [List.length_cons, List.length_nil, List.length_append]; omega) rfl rfl rfl rfl rfl) ?_
  refine scons (CStep.step (PStep.c (p_fieldRef rfl wSort_fld26_1 wSort_siz24 rfl (Sees.of rfl) rfl)) rfl rfl rfl rfl) ?_
  refine scons (r_storeR rfl wSort_siz24 rfl rfl rfl (Sees.of rfl) rfl rfl (Sees.of rfl) rfl) ?_
  refine snil ?_
  refine endsB_end (resB_eq (resB_none rfl) ?_) ⟨rfl, rfl, rfl, trivial⟩ rfl
  rfl

theorem sort_spec (n : Int) (l : List Int) :
    Spec Go.Proofs.Try.prog 15 [iv n, .val (ints l)] (three (cnf (Sp.sorted n l).1 (Sp.sorted n l).2.1) (ints (Sp.sorted n l).2.2.1) (fault (Sp.sorted n l).2.2.2.1 (Sp.sorted n l).2.2.2.2)) := by
  refine spec_of' Go.Proofs.Try.func15 rfl Go.Proofs.Try.ntmps15 rfl ?_
  refine f_seq ?_
  refine f_region ?_
  refine scons (r_alloc (ob := 10004) rfl wSort_zer26 rfl rfl rfl rfl rfl rfl) ?_
  refine scons (CStep.step (PStep.c (p_assign (y := .emp) rfl (Sees.of rfl) rfl)) rfl rfl rfl rfl) ?_
  refine scons (r_alloc (ob := 10006) rfl wSort_zer28 rfl rfl rfl rfl rfl rfl) ?_
  refine snil ?_
  refine f_seq ?_
  refine f_seq ?_
  refine f_region ?_
  refine scons (CStep.step (PStep.c (p_move (y := .val _) rfl (Sees.of rfl) rfl)) rfl rfl rfl rfl) ?_
  refine scons (CStep.step (PStep.c (p_move (y := .val _) rfl (Sees.of rfl) rfl)) rfl rfl rfl rfl) ?_
  refine scons (CStep.step (c_call rfl wSort_isf53 ⟨_, _, rfl, (Sees.of rfl), rfl, ⟨_, _, rfl, (Sees.of rfl), rfl, rfl⟩⟩ (cardCheck_spec n l)) rfl rfl rfl rfl) ?_
  refine scons (r_alloc (ob := 10007) rfl wSort_zer28 rfl rfl rfl rfl rfl rfl) ?_
  refine scons (r_storeS rfl wSort_siz28 rfl rfl rfl (Sees.of rfl) rfl (Sees.of rfl) rfl rfl rfl rfl) ?_
  refine snil ?_
  refine f_seq ?_
  refine f_region ?_
  refine scons (CStep.step (PStep.c (p_fieldRef rfl wSort_fld28_0 wSort_siz3 rfl (Sees.of rfl) rfl)) rfl rfl rfl rfl) ?_
  refine scons (CStep.step (PStep.c (p_loadB (y := .val _) rfl wSort_agg3 (Sees.of rfl) rfl rfl rfl rfl)) rfl rfl rfl rfl) ?_
  refine scons (CStep.step (PStep.c (p_neq rfl (Sees.of rfl) (Sees.of rfl))) rfl rfl rfl rfl) ?_
  refine snil ?_
  refine f_cond rfl ?_ ?_
  · intro hc1
    try simp only [bs] at hc1
    refine f_seq ?_
    refine f_draw wSort_mix (by kernel_rfl) ?_
    refine dcons (CStep.step (PStep.c (p_build rfl wSort_plc26 wSort_zer26 (by decide) wSort_zch26 rfl rfl)) rfl rfl rfl rfl) ?_
    refine dcons (CStep.step (PStep.c (p_loadBS rfl wSort_agg28 wSort_siz28 (Sees.of rfl) rfl rfl rfl)) rfl rfl rfl rfl) ?_
    refine dcons (r_storeS rfl wSort_siz26 rfl rfl rfl (Sees.of rfl) rfl (Sees.of rfl) rfl rfl rfl rfl) ?_
    refine dcons (CStep.step (PStep.c (p_assign (y := .emp) rfl (Sees.of rfl) rfl)) rfl rfl rfl rfl) ?_
    refine dcons (r_storeS rfl wSort_siz28 rfl rfl rfl (Sees.of rfl) rfl (Sees.of rfl) rfl rfl rfl rfl) ?_
    refine dnil (by kernel_rfl) ?_
    refine f_ret ?_
    refine ends_ret (res_eq (res3 rfl (res_cell (by rfl) rfl rfl wSort_agg26 wSort_siz26 rfl rfl) (res_tmp rfl (Sees.emp rfl 1 di 0)) (res_cell (by rfl) rfl rfl wSort_agg28 wSort_siz28 rfl rfl)) ?_)
    rw [Sp.sorted, if_pos hc1]
    all_goals rfl
  · intro hc1
    try simp only [bs] at hc1
    have hco := Sp.card_ok hc1
    refine f_skip ?_
    refine f_seq ?_
    refine f_region ?_
    refine scons (CStep.step (PStep.c (p_move (y := .val _) rfl (Sees.of rfl) rfl)) rfl rfl rfl rfl) ?_
    refine scons (CStep.step (PStep.c (p_buildV rfl wSort_plc26 wSort_zer26 rfl rfl ⟨_, _, _, _, _, rfl, rfl, rfl, (Sees.of rfl), (oneAt_val rfl), ⟨rfl, rfl⟩⟩ rfl)) rfl rfl rfl rfl) ?_
    refine scons (r_alloc (ob := 30000) rfl wSort_zer26 rfl rfl rfl rfl rfl rfl) ?_
    refine scons (r_storeV rfl wSort_siz26 rfl rfl rfl (Sees.of rfl) rfl (Sees.of rfl) rfl rfl rfl rfl) ?_
    refine snil ?_
    refine f_seq ?_
    refine f_region ?_
    refine scons (CStep.step (PStep.c (p_makeFunc (l := [.tmp 8]) rfl)) rfl rfl rfl rfl) ?_
    refine scons (CStep.step (PStep.c (p_assign (y := .clo _ _) rfl (Sees.of rfl) rfl)) rfl rfl rfl rfl) ?_
    refine snil ?_
    refine f_seq ?_
    refine f_region ?_
    refine scons (CStep.step (PStep.c (p_assign (y := .emp) rfl (Sees.of rfl) rfl)) rfl rfl rfl rfl) ?_
    refine snil ?_
    refine f_seq ?_
    refine f_seq ?_
    refine f_region ?_
    refine scons (CStep.step (PStep.c (p_move (y := .val _) rfl (Sees.of rfl) rfl)) rfl rfl rfl rfl) ?_
    refine scons (CStep.step (PStep.c (p_len rfl wSort_isl22 (Sees.of rfl))) rfl rfl rfl rfl) ?_
    refine scons (CStep.step (PStep.c (p_move (y := .val _) rfl (Sees.of rfl) rfl)) rfl rfl rfl rfl) ?_
    refine snil ?_
    refine f_block ?_
    refine f_loop (α := Nat × Nat) (fun (i, p) => i ≤ l.length) (fun (i, p) => [(30, iv i), (28, .val (ints l)), (29, iv l.length), (8, .ref 30000 0 0), (9, .clo 54 (.ccons (.ref 30000 0 0) .cnil)), (10, .val (ints (Sp.sortTo n l i).2.2)), (30000, .box 0 (.ccons (iv (Sp.sortTo n l i).1) (.ccons (.row 30001 p) .cnil))), (30001, .arr p 22 1 24 ints [] (Sp.sortTo n l i).2.1), (4, .ref 10004 0 0), (10004, .box 0 (.ccons (iv 0) (.ccons .emp .cnil))), (6, .ref 10006 0 0), (10006, .box 0 (.ccons (iv 0) (.ccons (iv 0) .cnil)))]) (fun (i, p) => l.length - i) (0, 0) ?_ ?_ ?_
    · exact Nat.zero_le _
    · exact Le.trans (GLe.le (g_adoptB (ob := 30000) (off := 1) (o1 := 30001) 22 1 24 ints [] rfl rfl rfl rfl rfl rfl rfl)) (Le.trans (le_empty (k := 10) 1 di 0 rfl rfl) (le_ofL ⟨rfl, rfl, rfl, rfl, rfl, rfl, rfl, rfl, rfl, rfl, rfl, rfl, trivial⟩ rfl))
    · rintro ⟨i, p⟩ hi
      have hi : i ≤ l.length := hi
      have hsb := Sp.sort_bnd l ⟨hco.1, hco.2.1⟩ i (by omega)
      have hbl := Sp.sortTo_len n l i
      refine f_seq ?_
      refine f_region ?_
      refine scons (CStep.step (PStep.c (p_lss rfl (Sees.of rfl) (Sees.of rfl))) rfl rfl rfl rfl) ?_
      refine snil ?_
      refine f_seq ?_
      refine f_cond rfl ?_ ?_
      · intro hc2
        try simp only [bs] at hc2
        refine f_skip ?_
        refine f_seq ?_
        refine f_block ?_
        refine f_seq ?_
        refine f_region ?_
        refine scons (CStep.step (PStep.c ((by first | exact p_indexN rfl wSort_isl22 wSort_siz3 (Sees.of rfl) (Sees.of rfl) (by omega) | exact p_index rfl wSort_isl22 wSort_siz3 (Sees.of rfl) (Sees.of rfl) (by omega) (by omega)))) rfl rfl rfl rfl) ?_
        refine scons (CStep.step (PStep.c (p_load rfl wSort_agg3 (Sees.of rfl) rfl)) rfl rfl rfl rfl) ?_
        refine scons (CStep.step (PStep.c (p_assign (y := .val _) rfl (Sees.of rfl) rfl)) rfl rfl rfl rfl) ?_
        refine snil ?_
        refine f_seq ?_
        refine f_region ?_
        refine scons (CStep.step (PStep.c (p_assign (y := .emp) rfl (Sees.of rfl) rfl)) rfl rfl rfl rfl) ?_
        refine snil ?_
        refine f_seq ?_
        refine f_seq ?_
        refine f_region ?_
        refine scons (CStep.step (PStep.c (p_move (y := .val _) rfl (Sees.of rfl) rfl)) rfl rfl rfl rfl) ?_
        refine scons (CStep.step (PStep.c (p_len rfl wSort_isl22 (Sees.of rfl))) rfl rfl rfl rfl) ?_
        refine scons (CStep.step (PStep.c (p_add rfl (Sees.of rfl) (Sees.of rfl) (by omega))) rfl rfl rfl rfl) ?_
        refine scons (CStep.step (PStep.c (p_move (y := .val _) rfl (Sees.of rfl) rfl)) rfl rfl rfl rfl) ?_
        refine snil ?_
        refine f_block ?_
        refine f_loop (α := Nat × Nat × Nat) (fun (j, q, w) => j ≤ i + 1) (fun (j, q, w) => [(37, iv j), (36, iv (i + 1 : Nat)), (12, iv (l.getD i 0)), (13, .row 20013 w), (20013, .arr w 3 1 8 di 0 (Sp.news (Sp.sortTo n l i).1 j)), (30, iv i), (28, .val (ints l)), (29, iv l.length), (8, .ref 30000 0 0), (9, .clo 54 (.ccons (.ref 30000 0 0) .cnil)), (10, .val (ints (Sp.sortTo n l i).2.2)), (30000, .box 0 (.ccons (iv ((Sp.sortTo n l i).1 + (j : Int))) (.ccons (.row 30001 q) .cnil))), (30001, .arr q 22 1 24 ints [] ((Sp.sortTo n l i).2.1 ++ Sp.sortIn (l.getD i 0) (Sp.sortTo n l i).1 (Sp.sortTo n l i).2.2 j)), (4, .ref 10004 0 0), (10004, .box 0 (.ccons (iv 0) (.ccons .emp .cnil))), (6, .ref 10006 0 0), (10006, .box 0 (.ccons (iv 0) (.ccons (iv 0) .cnil)))]) (fun (j, q, w) => i + 1 - j) (0, p, 0) ?_ ?_ ?_
        · exact Nat.zero_le _
        · exact Le.trans (GLe.le (g_adopt (ob := 20013) (k := 13) 3 1 8 di 0 rfl rfl rfl rfl)) (le_ofL ⟨rfl, (by show AV.val (.int .i64 (((Sp.sortTo n l i).2.2.length : Int) + 1)) = _; rw [hbl]; rfl), rfl, rfl, rfl, rfl, rfl, rfl, rfl, rfl, rfl, (by rw [show (Sp.sortTo n l i).1 + ((0 : Nat) : Int) = (Sp.sortTo n l i).1 by omega]; rfl), (by rw [Sp.sortIn, List.append_nil]; rfl), rfl, rfl, rfl, rfl, trivial⟩ rfl)
        · rintro ⟨j, q, w⟩ hj
          have hj : j ≤ i + 1 := hj
          have hx := hco.2.2.2 _ (Sp.getD_mem l i 0 (by omega))
          have hsl := Sp.sortIn_len (l.getD i 0) (Sp.sortTo n l i).1 (Sp.sortTo n l i).2.2 j
          have hj1 : 1 ≤ j → ((j : Int) - 1).toNat = j - 1 := fun h => by omega
          refine f_seq ?_
          refine f_region ?_
          refine scons (CStep.step (PStep.c (p_lss rfl (Sees.of rfl) (Sees.of rfl))) rfl rfl rfl rfl) ?_
          refine snil ?_
          refine f_seq ?_
          refine f_cond rfl ?_ ?_
          · intro hc3
            try simp only [bs] at hc3
            refine f_skip ?_
            refine f_seq ?_
            refine f_block ?_
            refine f_seq ?_
            refine f_region ?_
            refine scons (CStep.step (PStep.c (p_move (y := .val _) rfl (Sees.of rfl) rfl)) rfl rfl rfl rfl) ?_
            refine scons (CStep.step (PStep.c (p_assign (y := .val _) rfl (Sees.of rfl) rfl)) rfl rfl rfl rfl) ?_
            refine snil ?_
            refine f_seq ?_
            refine f_region ?_
            refine scons (CStep.step (PStep.c (p_fieldRef rfl wSort_fld26_0 wSort_siz3 rfl (Sees.of rfl) rfl)) rfl rfl rfl rfl) ?_
            refine scons (CStep.step (PStep.c (p_loadB (y := .val _) rfl wSort_agg3 (Sees.of rfl) rfl rfl rfl rfl)) rfl rfl rfl rfl) ?_
            refine scons (CStep.step (PStep.c (p_add rfl (Sees.of rfl) (Sees.of rfl) (by omega))) rfl rfl rfl rfl) ?_
            refine scons (CStep.step (PStep.c (p_fieldRef rfl wSort_fld26_0 wSort_siz3 rfl (Sees.of rfl) rfl)) rfl rfl rfl rfl) ?_
            refine scons (r_store rfl wSort_siz3 rfl rfl rfl (Sees.of rfl) rfl rfl (Sees.of rfl) (one_val rfl)) ?_
            refine snil ?_
            refine f_seq ?_
            refine f_region ?_
            refine scons (CStep.step (PStep.c (p_fieldRef rfl wSort_fld26_0 wSort_siz3 rfl (Sees.of rfl) rfl)) rfl rfl rfl rfl) ?_
            refine scons (CStep.step (PStep.c (p_loadB (y := .val _) rfl wSort_agg3 (Sees.of rfl) rfl rfl rfl rfl)) rfl rfl rfl rfl) ?_
            refine scons (CStep.step (PStep.c (p_assign (y := .val _) rfl (Sees.of rfl) rfl)) rfl rfl rfl rfl) ?_
            refine snil ?_
            refine f_seq ?_
            refine f_region ?_
            refine scons (CStep.step (PStep.c (p_move (y := .row _ _) rfl (Sees.of rfl) rfl)) rfl rfl rfl rfl) ?_
            refine scons (CStep.step (PStep.c (p_move (y := .val _) rfl (Sees.of rfl) rfl)) rfl rfl rfl rfl) ?_
            refine scons (CStep.step (c_buildSlice (f := di) (za := 0) (xs := [.tmp 47]) rfl rfl wSort_isl22 wSort_siz3 wSort_zer3 rfl rfl ⟨_, _, rfl, (Sees.of rfl), rfl, rfl, rfl⟩) rfl rfl rfl rfl) ?_
            refine scons (r_appendR (ob := 20013) rfl wSort_isl22 wSort_siz3 wSort_byt3 wSort_zer3 rfl rfl (Sees.of rfl) rfl (Sees.of rfl) (by simp only [Sp.news_len, List.length_cons, List.length_nil]; omega) (by simp only [Sp.news_len, List.length_cons, List.length_nil]; omega) rfl rfl rfl rfl rfl) ?_
            refine scons (CStep.step (PStep.c (p_assign (y := .row _ _) rfl (Sees.of rfl) rfl)) rfl rfl rfl rfl) ?_
            refine snil ?_
            refine f_seq ?_
            refine f_region ?_
            refine scons (CStep.step (PStep.c (p_move (y := .val _) rfl (Sees.of rfl) rfl)) rfl rfl rfl rfl) ?_
            refine scons (CStep.step (PStep.c (p_move (y := .val _) rfl (Sees.of rfl) rfl)) rfl rfl rfl rfl) ?_
            refine scons (CStep.step (PStep.c (p_len rfl wSort_isl22 (Sees.of rfl))) rfl rfl rfl rfl) ?_
            refine scons (CStep.step (PStep.c (p_lss rfl (Sees.of rfl) (Sees.of rfl))) rfl rfl rfl rfl) ?_
            refine scons (CStep.step (PStep.c (p_assign (y := .val _) rfl (Sees.of rfl) rfl)) rfl rfl rfl rfl) ?_
            refine snil ?_
            refine f_block ?_
            refine f_seq ?_
            refine f_region ?_
            refine scons (CStep.step (PStep.c (p_move (y := .val _) rfl (Sees.of rfl) rfl)) rfl rfl rfl rfl) ?_
            refine scons (CStep.step (PStep.c (p_move (y := .val _) rfl (Sees.of rfl) rfl)) rfl rfl rfl rfl) ?_
            refine scons (CStep.guard rfl rfl rfl (fun hg0 => PStep.c (p_move (y := .val _) rfl (Sees.of rfl) rfl)) rfl rfl rfl rfl rfl) ?_
            refine scons (CStep.guard rfl rfl rfl (fun hg0 => PStep.c (p_gtr rfl (Sees.gv' rfl hg0) (Sees.of rfl))) rfl rfl rfl rfl rfl) ?_
            refine scons (CStep.step (PStep.c (p_and rfl (Sees.of rfl) (fun h => Sees.gv' rfl (beq_of_eq h)) (Sees.of rfl))) rfl rfl rfl rfl) ?_
            refine scons (CStep.step (PStep.c (p_assign (y := .val _) rfl (Sees.of rfl) rfl)) rfl rfl rfl rfl) ?_
            refine snil ?_
            refine f_cond rfl ?_ ?_
            · intro hc4
              try simp only [bs] at hc4
              refine f_seq ?_
              have hb1 := hsb.2.2 _ (Sp.getD_mem (Sp.sortTo n l i).2.2 j 0 (by omega))
              have hb2 := hsb.2.2 _ (Sp.getD_mem (Sp.sortTo n l i).2.2 ((j : Int) - 1).toNat 0 (by omega))
              replace hj1 := hj1 (by omega)
              refine f_region ?_
              refine scons (CStep.step (PStep.c (p_move (y := .clo _ _) rfl (Sees.of rfl) rfl)) rfl rfl rfl rfl) ?_
              refine scons (CStep.step (PStep.c (p_move (y := .val _) rfl (Sees.of rfl) rfl)) rfl rfl rfl rfl) ?_
              refine scons (CStep.step (PStep.c (p_move (y := .val _) rfl (Sees.of rfl) rfl)) rfl rfl rfl rfl) ?_
              refine scons (CStep.step (PStep.c ((by first | exact p_indexN rfl wSort_isl22 wSort_siz3 (Sees.of rfl) (Sees.of rfl) (by omega) | exact p_index rfl wSort_isl22 wSort_siz3 (Sees.of rfl) (Sees.of rfl) (by omega) (by omega)))) rfl rfl rfl rfl) ?_
              refine scons (CStep.step (PStep.c (p_load rfl wSort_agg3 (Sees.of rfl) rfl)) rfl rfl rfl rfl) ?_
              refine scons (CStep.step (PStep.c (p_neg rfl (Sees.of rfl) (by omega))) rfl rfl rfl rfl) ?_
              refine scons (CStep.step (PStep.c (p_move (y := .val _) rfl (Sees.of rfl) rfl)) rfl rfl rfl rfl) ?_
              refine scons (CStep.step (c_buildSlice (f := di) (za := 0) (xs := [.tmp 77, .tmp 78]) rfl rfl wSort_isl22 wSort_siz3 wSort_zer3 rfl rfl ⟨_, _, rfl, (Sees.of rfl), rfl, rfl, ⟨_, _, rfl, (Sees.of rfl), rfl, rfl, rfl⟩⟩) rfl rfl rfl rfl) ?_
              refine scons (r_callBC (ys := [.val (ints [-((Sp.sortTo n l i).2.2.getD j 0), ((Sp.sortTo n l i).1 + (j : Int) + 1)])]) (us := [.ref 30000 0 0]) rfl wSort_isf54 (add_spec [-((Sp.sortTo n l i).2.2.getD j 0), ((Sp.sortTo n l i).1 + (j : Int) + 1)] ((Sp.sortTo n l i).1 + (j : Int) + 1) ((Sp.sortTo n l i).2.1 ++ Sp.sortIn (l.getD i 0) (Sp.sortTo n l i).1 (Sp.sortTo n l i).2.2 j) 0 q (by simp only [List.length_append, List.length_cons, List.length_nil]; omega)) (Sees.of rfl) ⟨_, _, rfl, (Sees.of rfl), rfl⟩ ⟨rfl, rfl, trivial⟩ rfl rfl rfl rfl rfl rfl) ?_
              refine snil ?_
              refine f_seq ?_
              refine f_region ?_
              refine scons (CStep.step (PStep.c (p_move (y := .clo _ _) rfl (Sees.of rfl) rfl)) rfl rfl rfl rfl) ?_
              refine scons (CStep.step (PStep.c (p_move (y := .val _) rfl (Sees.of rfl) rfl)) rfl rfl rfl rfl) ?_
              refine scons (CStep.step (PStep.c (p_neg rfl (Sees.of rfl) (by omega))) rfl rfl rfl rfl) ?_
              refine scons (CStep.step (PStep.c (p_move (y := .val _) rfl (Sees.of rfl) rfl)) rfl rfl rfl rfl) ?_
              refine scons (CStep.step (PStep.c (p_move (y := .val _) rfl (Sees.of rfl) rfl)) rfl rfl rfl rfl) ?_
              refine scons (CStep.step (PStep.c (p_sub rfl (Sees.of rfl) (Sees.of rfl) (by omega))) rfl rfl rfl rfl) ?_
              refine scons (CStep.step (PStep.c ((by first | exact p_indexN rfl wSort_isl22 wSort_siz3 (Sees.of rfl) (Sees.of rfl) (by omega) | exact p_index rfl wSort_isl22 wSort_siz3 (Sees.of rfl) (Sees.of rfl) (by omega) (by omega)))) rfl rfl rfl rfl) ?_
              refine scons (CStep.step (PStep.c (p_load rfl wSort_agg3 (Sees.of rfl) rfl)) rfl rfl rfl rfl) ?_
              refine scons (CStep.step (PStep.c (p_neg rfl (Sees.of rfl) (by omega))) rfl rfl rfl rfl) ?_
              refine scons (CStep.step (PStep.c (p_move (y := .val _) rfl (Sees.of rfl) rfl)) rfl rfl rfl rfl) ?_
              refine scons (CStep.step (c_buildSlice (f := di) (za := 0) (xs := [.tmp 83, .tmp 89, .tmp 90]) rfl rfl wSort_isl22 wSort_siz3 wSort_zer3 rfl rfl ⟨_, _, rfl, (Sees.of rfl), rfl, rfl, ⟨_, _, rfl, (Sees.of rfl), rfl, rfl, ⟨_, _, rfl, (Sees.of rfl), rfl, rfl, rfl⟩⟩⟩) rfl rfl rfl rfl) ?_
              refine scons (r_callBC (ys := [.val (ints [-(l.getD i 0), -((Sp.sortTo n l i).2.2.getD ((j : Int) - 1).toNat 0), ((Sp.sortTo n l i).1 + (j : Int) + 1)])]) (us := [.ref 30000 0 0]) rfl wSort_isf54 (add_spec [-(l.getD i 0), -((Sp.sortTo n l i).2.2.getD ((j : Int) - 1).toNat 0), ((Sp.sortTo n l i).1 + (j : Int) + 1)] ((Sp.sortTo n l i).1 + (j : Int) + 1) (((Sp.sortTo n l i).2.1 ++ Sp.sortIn (l.getD i 0) (Sp.sortTo n l i).1 (Sp.sortTo n l i).2.2 j) ++ [[-((Sp.sortTo n l i).2.2.getD j 0), ((Sp.sortTo n l i).1 + (j : Int) + 1)]]) 0 (q + 1) (by simp only [List.length_append, List.length_cons, List.length_nil]; omega)) (Sees.of rfl) ⟨_, _, rfl, (Sees.of rfl), rfl⟩ ⟨rfl, rfl, trivial⟩ rfl rfl rfl rfl rfl rfl) ?_
              refine snil ?_
              refine f_seq ?_
              refine f_region ?_
              refine scons (CStep.step (PStep.c (p_move (y := .clo _ _) rfl (Sees.of rfl) rfl)) rfl rfl rfl rfl) ?_
              refine scons (CStep.step (PStep.c (p_move (y := .val _) rfl (Sees.of rfl) rfl)) rfl rfl rfl rfl) ?_
              refine scons (CStep.step (PStep.c (p_move (y := .val _) rfl (Sees.of rfl) rfl)) rfl rfl rfl rfl) ?_
              refine scons (CStep.step (PStep.c ((by first | exact p_indexN rfl wSort_isl22 wSort_siz3 (Sees.of rfl) (Sees.of rfl) (by omega) | exact p_index rfl wSort_isl22 wSort_siz3 (Sees.of rfl) (Sees.of rfl) (by omega) (by omega)))) rfl rfl rfl rfl) ?_
              refine scons (CStep.step (PStep.c (p_load rfl wSort_agg3 (Sees.of rfl) rfl)) rfl rfl rfl rfl) ?_
              refine scons (CStep.step (PStep.c (p_move (y := .val _) rfl (Sees.of rfl) rfl)) rfl rfl rfl rfl) ?_
              refine scons (CStep.step (PStep.c (p_move (y := .val _) rfl (Sees.of rfl) rfl)) rfl rfl rfl rfl) ?_
              refine scons (CStep.step (PStep.c (p_neg rfl (Sees.of rfl) (by omega))) rfl rfl rfl rfl) ?_
              refine scons (CStep.step (c_buildSlice (f := di) (za := 0) (xs := [.tmp 97, .tmp 98, .tmp 100]) rfl rfl wSort_isl22 wSort_siz3 wSort_zer3 rfl rfl ⟨_, _, rfl, (Sees.of rfl), rfl, rfl, ⟨_, _, rfl, (Sees.of rfl), rfl, rfl, ⟨_, _, rfl, (Sees.of rfl), rfl, rfl, rfl⟩⟩⟩) rfl rfl rfl rfl) ?_
              refine scons (r_callBC (ys := [.val (ints [((Sp.sortTo n l i).2.2.getD j 0), (l.getD i 0), -((Sp.sortTo n l i).1 + (j : Int) + 1)])]) (us := [.ref 30000 0 0]) rfl wSort_isf54 (add_spec [((Sp.sortTo n l i).2.2.getD j 0), (l.getD i 0), -((Sp.sortTo n l i).1 + (j : Int) + 1)] ((Sp.sortTo n l i).1 + (j : Int) + 1) ((((Sp.sortTo n l i).2.1 ++ Sp.sortIn (l.getD i 0) (Sp.sortTo n l i).1 (Sp.sortTo n l i).2.2 j) ++ [[-((Sp.sortTo n l i).2.2.getD j 0), ((Sp.sortTo n l i).1 + (j : Int) + 1)]]) ++ [[-(l.getD i 0), -((Sp.sortTo n l i).2.2.getD ((j : Int) - 1).toNat 0), ((Sp.sortTo n l i).1 + (j : Int) + 1)]]) 0 (q + 1 + 1) (by simp only [List.length_append, List.length_cons, List.length_nil]; omega)) (Sees.of rfl) ⟨_, _, rfl, (Sees.of rfl), rfl⟩ ⟨rfl, rfl, trivial⟩ rfl rfl rfl rfl rfl rfl) ?_
              refine snil ?_
              refine f_draw wSort_mix (by kernel_rfl) ?_
              refine dcons (CStep.step (PStep.c (p_move (y := .clo _ _) rfl (Sees.of rfl) rfl)) rfl rfl rfl rfl) ?_
              refine dcons (CStep.step (PStep.c (p_move (y := .val _) rfl (Sees.of rfl) rfl)) rfl rfl rfl rfl) ?_
              refine dcons (CStep.step (PStep.c (p_move (y := .val _) rfl (Sees.of rfl) rfl)) rfl rfl rfl rfl) ?_
              refine dcons (CStep.step (PStep.c ((by first | exact p_indexN rfl wSort_isl22 wSort_siz3 (Sees.of rfl) (Sees.of rfl) (by omega) | exact p_index rfl wSort_isl22 wSort_siz3 (Sees.of rfl) (Sees.of rfl) (by omega) (by omega)))) rfl rfl rfl rfl) ?_
              refine dcons (CStep.step (PStep.c (p_load rfl wSort_agg3 (Sees.of rfl) rfl)) rfl rfl rfl rfl) ?_
              refine dcons (CStep.step (PStep.c (p_move (y := .val _) rfl (Sees.of rfl) rfl)) rfl rfl rfl rfl) ?_
              refine dcons (CStep.step (PStep.c (p_move (y := .val _) rfl (Sees.of rfl) rfl)) rfl rfl rfl rfl) ?_
              refine dcons (CStep.step (PStep.c (p_sub rfl (Sees.of rfl) (Sees.of rfl) (by omega))) rfl rfl rfl rfl) ?_
              refine dcons (CStep.step (PStep.c ((by first | exact p_indexN rfl wSort_isl22 wSort_siz3 (Sees.of rfl) (Sees.of rfl) (by omega) | exact p_index rfl wSort_isl22 wSort_siz3 (Sees.of rfl) (Sees.of rfl) (by omega) (by omega)))) rfl rfl rfl rfl) ?_
              refine dcons (CStep.step (PStep.c (p_load rfl wSort_agg3 (Sees.of rfl) rfl)) rfl rfl rfl rfl) ?_
              refine dcons (CStep.step (PStep.c (p_move (y := .val _) rfl (Sees.of rfl) rfl)) rfl rfl rfl rfl) ?_
              refine dcons (CStep.step (PStep.c (p_neg rfl (Sees.of rfl) (by omega))) rfl rfl rfl rfl) ?_
              refine dcons (CStep.step (c_buildSlice (f := di) (za := 0) (xs := [.tmp 107, .tmp 112, .tmp 114]) rfl rfl wSort_isl22 wSort_siz3 wSort_zer3 rfl rfl ⟨_, _, rfl, (Sees.of rfl), rfl, rfl, ⟨_, _, rfl, (Sees.of rfl), rfl, rfl, ⟨_, _, rfl, (Sees.of rfl), rfl, rfl, rfl⟩⟩⟩) rfl rfl rfl rfl) ?_
              refine dcons (r_callBC (ys := [.val (ints [((Sp.sortTo n l i).2.2.getD j 0), ((Sp.sortTo n l i).2.2.getD ((j : Int) - 1).toNat 0), -((Sp.sortTo n l i).1 + (j : Int) + 1)])]) (us := [.ref 30000 0 0]) rfl wSort_isf54 (add_spec [((Sp.sortTo n l i).2.2.getD j 0), ((Sp.sortTo n l i).2.2.getD ((j : Int) - 1).toNat 0), -((Sp.sortTo n l i).1 + (j : Int) + 1)] ((Sp.sortTo n l i).1 + (j : Int) + 1) (((((Sp.sortTo n l i).2.1 ++ Sp.sortIn (l.getD i 0) (Sp.sortTo n l i).1 (Sp.sortTo n l i).2.2 j) ++ [[-((Sp.sortTo n l i).2.2.getD j 0), ((Sp.sortTo n l i).1 + (j : Int) + 1)]]) ++ [[-(l.getD i 0), -((Sp.sortTo n l i).2.2.getD ((j : Int) - 1).toNat 0), ((Sp.sortTo n l i).1 + (j : Int) + 1)]]) ++ [[((Sp.sortTo n l i).2.2.getD j 0), (l.getD i 0), -((Sp.sortTo n l i).1 + (j : Int) + 1)]]) 0 (q + 1 + 1 + 1) (by simp only [List.length_append, List.length_cons, List.length_nil]; omega)) (Sees.of rfl) ⟨_, _, rfl, (Sees.of rfl), rfl⟩ ⟨rfl, rfl, trivial⟩ rfl rfl rfl rfl rfl rfl) ?_
              refine dnil (by kernel_rfl) ?_
              refine f_nil ?_
              show AWs _ _ _ _ _
              refine f_nil ?_
              show AWs _ _ _ _ _
              refine f_region ?_
              refine scons (CStep.step (PStep.c (p_add rfl (Sees.of rfl) (Sees.of rfl) (by omega))) rfl rfl rfl rfl) ?_
              refine scons (CStep.step (PStep.c (p_move (y := .val _) rfl (Sees.of rfl) rfl)) rfl rfl rfl rfl) ?_
              refine snil ?_
              have e : (Sp.sortTo n l i).2.1 ++ Sp.sortIn (l.getD i 0) (Sp.sortTo n l i).1 (Sp.sortTo n l i).2.2 (j + 1) = ((((((Sp.sortTo n l i).2.1 ++ Sp.sortIn (l.getD i 0) (Sp.sortTo n l i).1 (Sp.sortTo n l i).2.2 j) ++ [[-((Sp.sortTo n l i).2.2.getD j 0), ((Sp.sortTo n l i).1 + (j : Int) + 1)]]) ++ [[-(l.getD i 0), -((Sp.sortTo n l i).2.2.getD ((j : Int) - 1).toNat 0), ((Sp.sortTo n l i).1 + (j : Int) + 1)]]) ++ [[((Sp.sortTo n l i).2.2.getD j 0), (l.getD i 0), -((Sp.sortTo n l i).1 + (j : Int) + 1)]]) ++ [[((Sp.sortTo n l i).2.2.getD j 0), ((Sp.sortTo n l i).2.2.getD ((j : Int) - 1).toNat 0), -((Sp.sortTo n l i).1 + (j : Int) + 1)]]) := by
                rw [Sp.sortIn, Sp.sortCl, if_pos ⟨by rw [hbl]; omega, by omega⟩]
                try rw [hj1]
                simp
              refine f_back ⟨(j + 1, q + 1 + 1 + 1 + 1, w + 1), ?_, ?_, le_ofL ⟨rfl, rfl, rfl, rfl, (by rw [Sp.news_succ]; rfl), rfl, rfl, rfl, rfl, rfl, rfl, (by rw [show (Sp.sortTo n l i).1 + ((j + 1 : Nat) : Int) = ((Sp.sortTo n l i).1 + (j : Int) + 1) by omega]; rfl), (by rw [e]; rfl), rfl, rfl, rfl, rfl, trivial⟩ rfl⟩
              · show j + 1 ≤ i + 1
                omega
              · show i + 1 - (j + 1) < i + 1 - j
                omega
            · intro hc4
              try simp only [bs] at hc4
              refine f_seq ?_
              refine f_region ?_
              refine scons (CStep.step (PStep.c (p_move (y := .val _) rfl (Sees.of rfl) rfl)) rfl rfl rfl rfl) ?_
              refine scons (CStep.step (PStep.c (p_assign (y := .val _) rfl (Sees.of rfl) rfl)) rfl rfl rfl rfl) ?_
              refine snil ?_
              refine f_cond rfl ?_ ?_
              · intro hc5
                try simp only [bs] at hc5
                refine f_seq ?_
                have hb1 := hsb.2.2 _ (Sp.getD_mem (Sp.sortTo n l i).2.2 j 0 (by omega))
                refine f_region ?_
                refine scons (CStep.step (PStep.c (p_move (y := .clo _ _) rfl (Sees.of rfl) rfl)) rfl rfl rfl rfl) ?_
                refine scons (CStep.step (PStep.c (p_move (y := .val _) rfl (Sees.of rfl) rfl)) rfl rfl rfl rfl) ?_
                refine scons (CStep.step (PStep.c (p_move (y := .val _) rfl (Sees.of rfl) rfl)) rfl rfl rfl rfl) ?_
                refine scons (CStep.step (PStep.c ((by first | exact p_indexN rfl wSort_isl22 wSort_siz3 (Sees.of rfl) (Sees.of rfl) (by omega) | exact p_index rfl wSort_isl22 wSort_siz3 (Sees.of rfl) (Sees.of rfl) (by omega) (by omega)))) rfl rfl rfl rfl) ?_
                refine scons (CStep.step (PStep.c (p_load rfl wSort_agg3 (Sees.of rfl) rfl)) rfl rfl rfl rfl) ?_
                refine scons (CStep.step (PStep.c (p_neg rfl (Sees.of rfl) (by omega))) rfl rfl rfl rfl) ?_
                refine scons (CStep.step (PStep.c (p_move (y := .val _) rfl (Sees.of rfl) rfl)) rfl rfl rfl rfl) ?_
                refine scons (CStep.step (c_buildSlice (f := di) (za := 0) (xs := [.tmp 124, .tmp 125]) rfl rfl wSort_isl22 wSort_siz3 wSort_zer3 rfl rfl ⟨_, _, rfl, (Sees.of rfl), rfl, rfl, ⟨_, _, rfl, (Sees.of rfl), rfl, rfl, rfl⟩⟩) rfl rfl rfl rfl) ?_
                refine scons (r_callBC (ys := [.val (ints [-((Sp.sortTo n l i).2.2.getD j 0), ((Sp.sortTo n l i).1 + (j : Int) + 1)])]) (us := [.ref 30000 0 0]) rfl wSort_isf54 (add_spec [-((Sp.sortTo n l i).2.2.getD j 0), ((Sp.sortTo n l i).1 + (j : Int) + 1)] ((Sp.sortTo n l i).1 + (j : Int) + 1) ((Sp.sortTo n l i).2.1 ++ Sp.sortIn (l.getD i 0) (Sp.sortTo n l i).1 (Sp.sortTo n l i).2.2 j) 0 q (by simp only [List.length_append, List.length_cons, List.length_nil]; omega)) (Sees.of rfl) ⟨_, _, rfl, (Sees.of rfl), rfl⟩ ⟨rfl, rfl, trivial⟩ rfl rfl rfl rfl rfl rfl) ?_
                refine snil ?_
                refine f_seq ?_
                refine f_region ?_
                refine scons (CStep.step (PStep.c (p_move (y := .clo _ _) rfl (Sees.of rfl) rfl)) rfl rfl rfl rfl) ?_
                refine scons (CStep.step (PStep.c (p_move (y := .val _) rfl (Sees.of rfl) rfl)) rfl rfl rfl rfl) ?_
                refine scons (CStep.step (PStep.c (p_neg rfl (Sees.of rfl) (by omega))) rfl rfl rfl rfl) ?_
                refine scons (CStep.step (PStep.c (p_move (y := .val _) rfl (Sees.of rfl) rfl)) rfl rfl rfl rfl) ?_
                refine scons (CStep.step (c_buildSlice (f := di) (za := 0) (xs := [.tmp 130, .tmp 131]) rfl rfl wSort_isl22 wSort_siz3 wSort_zer3 rfl rfl ⟨_, _, rfl, (Sees.of rfl), rfl, rfl, ⟨_, _, rfl, (Sees.of rfl), rfl, rfl, rfl⟩⟩) rfl rfl rfl rfl) ?_
                refine scons (r_callBC (ys := [.val (ints [-(l.getD i 0), ((Sp.sortTo n l i).1 + (j : Int) + 1)])]) (us := [.ref 30000 0 0]) rfl wSort_isf54 (add_spec [-(l.getD i 0), ((Sp.sortTo n l i).1 + (j : Int) + 1)] ((Sp.sortTo n l i).1 + (j : Int) + 1) (((Sp.sortTo n l i).2.1 ++ Sp.sortIn (l.getD i 0) (Sp.sortTo n l i).1 (Sp.sortTo n l i).2.2 j) ++ [[-((Sp.sortTo n l i).2.2.getD j 0), ((Sp.sortTo n l i).1 + (j : Int) + 1)]]) 0 (q + 1) (by simp only [List.length_append, List.length_cons, List.length_nil]; omega)) (Sees.of rfl) ⟨_, _, rfl, (Sees.of rfl), rfl⟩ ⟨rfl, rfl, trivial⟩ rfl rfl rfl rfl rfl rfl) ?_
                refine snil ?_
                refine f_region ?_
                refine scons (CStep.step (PStep.c (p_move (y := .clo _ _) rfl (Sees.of rfl) rfl)) rfl rfl rfl rfl) ?_
                refine scons (CStep.step (PStep.c (p_move (y := .val _) rfl (Sees.of rfl) rfl)) rfl rfl rfl rfl) ?_
                refine scons (CStep.step (PStep.c (p_move (y := .val _) rfl (Sees.of rfl) rfl)) rfl rfl rfl rfl) ?_
                refine scons (CStep.step (PStep.c ((by first | exact p_indexN rfl wSort_isl22 wSort_siz3 (Sees.of rfl) (Sees.of rfl) (by omega) | exact p_index rfl wSort_isl22 wSort_siz3 (Sees.of rfl) (Sees.of rfl) (by omega) (by omega)))) rfl rfl rfl rfl) ?_
                refine scons (CStep.step (PStep.c (p_load rfl wSort_agg3 (Sees.of rfl) rfl)) rfl rfl rfl rfl) ?_
                refine scons (CStep.step (PStep.c (p_move (y := .val _) rfl (Sees.of rfl) rfl)) rfl rfl rfl rfl) ?_
                refine scons (CStep.step (PStep.c (p_move (y := .val _) rfl (Sees.of rfl) rfl)) rfl rfl rfl rfl) ?_
                refine scons (CStep.step (PStep.c (p_neg rfl (Sees.of rfl) (by omega))) rfl rfl rfl rfl) ?_
                refine scons (CStep.step (c_buildSlice (f := di) (za := 0) (xs := [.tmp 138, .tmp 139, .tmp 141]) rfl rfl wSort_isl22 wSort_siz3 wSort_zer3 rfl rfl ⟨_, _, rfl, (Sees.of rfl), rfl, rfl, ⟨_, _, rfl, (Sees.of rfl), rfl, rfl, ⟨_, _, rfl, (Sees.of rfl), rfl, rfl, rfl⟩⟩⟩) rfl rfl rfl rfl) ?_
                refine scons (r_callBC (ys := [.val (ints [((Sp.sortTo n l i).2.2.getD j 0), (l.getD i 0), -((Sp.sortTo n l i).1 + (j : Int) + 1)])]) (us := [.ref 30000 0 0]) rfl wSort_isf54 (add_spec [((Sp.sortTo n l i).2.2.getD j 0), (l.getD i 0), -((Sp.sortTo n l i).1 + (j : Int) + 1)] ((Sp.sortTo n l i).1 + (j : Int) + 1) ((((Sp.sortTo n l i).2.1 ++ Sp.sortIn (l.getD i 0) (Sp.sortTo n l i).1 (Sp.sortTo n l i).2.2 j) ++ [[-((Sp.sortTo n l i).2.2.getD j 0), ((Sp.sortTo n l i).1 + (j : Int) + 1)]]) ++ [[-(l.getD i 0), ((Sp.sortTo n l i).1 + (j : Int) + 1)]]) 0 (q + 1 + 1) (by simp only [List.length_append, List.length_cons, List.length_nil]; omega)) (Sees.of rfl) ⟨_, _, rfl, (Sees.of rfl), rfl⟩ ⟨rfl, rfl, trivial⟩ rfl rfl rfl rfl rfl rfl) ?_
                refine snil ?_
                refine f_nil ?_
                show AWs _ _ _ _ _
                refine f_nil ?_
                show AWs _ _ _ _ _
                refine f_region ?_
                refine scons (CStep.step (PStep.c (p_add rfl (Sees.of rfl) (Sees.of rfl) (by omega))) rfl rfl rfl rfl) ?_
                refine scons (CStep.step (PStep.c (p_move (y := .val _) rfl (Sees.of rfl) rfl)) rfl rfl rfl rfl) ?_
                refine snil ?_
                have e : (Sp.sortTo n l i).2.1 ++ Sp.sortIn (l.getD i 0) (Sp.sortTo n l i).1 (Sp.sortTo n l i).2.2 (j + 1) = (((((Sp.sortTo n l i).2.1 ++ Sp.sortIn (l.getD i 0) (Sp.sortTo n l i).1 (Sp.sortTo n l i).2.2 j) ++ [[-((Sp.sortTo n l i).2.2.getD j 0), ((Sp.sortTo n l i).1 + (j : Int) + 1)]]) ++ [[-(l.getD i 0), ((Sp.sortTo n l i).1 + (j : Int) + 1)]]) ++ [[((Sp.sortTo n l i).2.2.getD j 0), (l.getD i 0), -((Sp.sortTo n l i).1 + (j : Int) + 1)]]) := by
                  rw [Sp.sortIn, Sp.sortCl, if_neg (by rw [hbl]; omega), if_pos (by rw [hbl]; omega)]
                  try rw [hj1]
                  simp
                refine f_back ⟨(j + 1, q + 1 + 1 + 1, w + 1), ?_, ?_, le_ofL ⟨rfl, rfl, rfl, rfl, (by rw [Sp.news_succ]; rfl), rfl, rfl, rfl, rfl, rfl, rfl, (by rw [show (Sp.sortTo n l i).1 + ((j + 1 : Nat) : Int) = ((Sp.sortTo n l i).1 + (j : Int) + 1) by omega]; rfl), (by rw [e]; rfl), rfl, rfl, rfl, rfl, trivial⟩ rfl⟩
                · show j + 1 ≤ i + 1
                  omega
                · show i + 1 - (j + 1) < i + 1 - j
                  omega
              · intro hc5
                try simp only [bs] at hc5
                refine f_seq ?_
                refine f_region ?_
                refine scons (CStep.step (PStep.c (p_move (y := .val _) rfl (Sees.of rfl) rfl)) rfl rfl rfl rfl) ?_
                refine scons (CStep.step (PStep.c (p_gtr rfl (Sees.of rfl) (Sees.of rfl))) rfl rfl rfl rfl) ?_
                refine scons (CStep.step (PStep.c (p_assign (y := .val _) rfl (Sees.of rfl) rfl)) rfl rfl rfl rfl) ?_
                refine snil ?_
                refine f_cond rfl ?_ ?_
                · intro hc6
                  try simp only [bs] at hc6
                  refine f_seq ?_
                  have hb2 := hsb.2.2 _ (Sp.getD_mem (Sp.sortTo n l i).2.2 ((j : Int) - 1).toNat 0 (by omega))
                  replace hj1 := hj1 (by omega)
                  refine f_region ?_
                  refine scons (CStep.step (PStep.c (p_move (y := .clo _ _) rfl (Sees.of rfl) rfl)) rfl rfl rfl rfl) ?_
                  refine scons (CStep.step (PStep.c (p_move (y := .val _) rfl (Sees.of rfl) rfl)) rfl rfl rfl rfl) ?_
                  refine scons (CStep.step (PStep.c (p_neg rfl (Sees.of rfl) (by omega))) rfl rfl rfl rfl) ?_
                  refine scons (CStep.step (PStep.c (p_move (y := .val _) rfl (Sees.of rfl) rfl)) rfl rfl rfl rfl) ?_
                  refine scons (CStep.step (PStep.c (p_move (y := .val _) rfl (Sees.of rfl) rfl)) rfl rfl rfl rfl) ?_
                  refine scons (CStep.step (PStep.c (p_sub rfl (Sees.of rfl) (Sees.of rfl) (by omega))) rfl rfl rfl rfl) ?_
                  refine scons (CStep.step (PStep.c ((by first | exact p_indexN rfl wSort_isl22 wSort_siz3 (Sees.of rfl) (Sees.of rfl) (by omega) | exact p_index rfl wSort_isl22 wSort_siz3 (Sees.of rfl) (Sees.of rfl) (by omega) (by omega)))) rfl rfl rfl rfl) ?_
                  refine scons (CStep.step (PStep.c (p_load rfl wSort_agg3 (Sees.of rfl) rfl)) rfl rfl rfl rfl) ?_
                  refine scons (CStep.step (PStep.c (p_neg rfl (Sees.of rfl) (by omega))) rfl rfl rfl rfl) ?_
                  refine scons (CStep.step (PStep.c (p_move (y := .val _) rfl (Sees.of rfl) rfl)) rfl rfl rfl rfl) ?_
                  refine scons (CStep.step (c_buildSlice (f := di) (za := 0) (xs := [.tmp 149, .tmp 155, .tmp 156]) rfl rfl wSort_isl22 wSort_siz3 wSort_zer3 rfl rfl ⟨_, _, rfl, (Sees.of rfl), rfl, rfl, ⟨_, _, rfl, (Sees.of rfl), rfl, rfl, ⟨_, _, rfl, (Sees.of rfl), rfl, rfl, rfl⟩⟩⟩) rfl rfl rfl rfl) ?_
                  refine scons (r_callBC (ys := [.val (ints [-(l.getD i 0), -((Sp.sortTo n l i).2.2.getD ((j : Int) - 1).toNat 0), ((Sp.sortTo n l i).1 + (j : Int) + 1)])]) (us := [.ref 30000 0 0]) rfl wSort_isf54 (add_spec [-(l.getD i 0), -((Sp.sortTo n l i).2.2.getD ((j : Int) - 1).toNat 0), ((Sp.sortTo n l i).1 + (j : Int) + 1)] ((Sp.sortTo n l i).1 + (j : Int) + 1) ((Sp.sortTo n l i).2.1 ++ Sp.sortIn (l.getD i 0) (Sp.sortTo n l i).1 (Sp.sortTo n l i).2.2 j) 0 q (by simp only [List.length_append, List.length_cons, List.length_nil]; omega)) (Sees.of rfl) ⟨_, _, rfl, (Sees.of rfl), rfl⟩ ⟨rfl, rfl, trivial⟩ rfl rfl rfl rfl rfl rfl) ?_
                  refine snil ?_
                  refine f_seq ?_
                  refine f_region ?_
                  refine scons (CStep.step (PStep.c (p_move (y := .clo _ _) rfl (Sees.of rfl) rfl)) rfl rfl rfl rfl) ?_
                  refine scons (CStep.step (PStep.c (p_move (y := .val _) rfl (Sees.of rfl) rfl)) rfl rfl rfl rfl) ?_
                  refine scons (CStep.step (PStep.c (p_move (y := .val _) rfl (Sees.of rfl) rfl)) rfl rfl rfl rfl) ?_
                  refine scons (CStep.step (PStep.c (p_neg rfl (Sees.of rfl) (by omega))) rfl rfl rfl rfl) ?_
                  refine scons (CStep.step (c_buildSlice (f := di) (za := 0) (xs := [.tmp 160, .tmp 162]) rfl rfl wSort_isl22 wSort_siz3 wSort_zer3 rfl rfl ⟨_, _, rfl, (Sees.of rfl), rfl, rfl, ⟨_, _, rfl, (Sees.of rfl), rfl, rfl, rfl⟩⟩) rfl rfl rfl rfl) ?_
                  refine scons (r_callBC (ys := [.val (ints [(l.getD i 0), -((Sp.sortTo n l i).1 + (j : Int) + 1)])]) (us := [.ref 30000 0 0]) rfl wSort_isf54 (add_spec [(l.getD i 0), -((Sp.sortTo n l i).1 + (j : Int) + 1)] ((Sp.sortTo n l i).1 + (j : Int) + 1) (((Sp.sortTo n l i).2.1 ++ Sp.sortIn (l.getD i 0) (Sp.sortTo n l i).1 (Sp.sortTo n l i).2.2 j) ++ [[-(l.getD i 0), -((Sp.sortTo n l i).2.2.getD ((j : Int) - 1).toNat 0), ((Sp.sortTo n l i).1 + (j : Int) + 1)]]) 0 (q + 1) (by simp only [List.length_append, List.length_cons, List.length_nil]; omega)) (Sees.of rfl) ⟨_, _, rfl, (Sees.of rfl), rfl⟩ ⟨rfl, rfl, trivial⟩ rfl rfl rfl rfl rfl rfl) ?_
                  refine snil ?_
                  refine f_region ?_
                  refine scons (CStep.step (PStep.c (p_move (y := .clo _ _) rfl (Sees.of rfl) rfl)) rfl rfl rfl rfl) ?_
                  refine scons (CStep.step (PStep.c (p_move (y := .val _) rfl (Sees.of rfl) rfl)) rfl rfl rfl rfl) ?_
                  refine scons (CStep.step (PStep.c (p_move (y := .val _) rfl (Sees.of rfl) rfl)) rfl rfl rfl rfl) ?_
                  refine scons (CStep.step (PStep.c (p_sub rfl (Sees.of rfl) (Sees.of rfl) (by omega))) rfl rfl rfl rfl) ?_
                  refine scons (CStep.step (PStep.c ((by first | exact p_indexN rfl wSort_isl22 wSort_siz3 (Sees.of rfl) (Sees.of rfl) (by omega) | exact p_index rfl wSort_isl22 wSort_siz3 (Sees.of rfl) (Sees.of rfl) (by omega) (by omega)))) rfl rfl rfl rfl) ?_
                  refine scons (CStep.step (PStep.c (p_load rfl wSort_agg3 (Sees.of rfl) rfl)) rfl rfl rfl rfl) ?_
                  refine scons (CStep.step (PStep.c (p_move (y := .val _) rfl (Sees.of rfl) rfl)) rfl rfl rfl rfl) ?_
                  refine scons (CStep.step (PStep.c (p_neg rfl (Sees.of rfl) (by omega))) rfl rfl rfl rfl) ?_
                  refine scons (CStep.step (c_buildSlice (f := di) (za := 0) (xs := [.tmp 170, .tmp 172]) rfl rfl wSort_isl22 wSort_siz3 wSort_zer3 rfl rfl ⟨_, _, rfl, (Sees.of rfl), rfl, rfl, ⟨_, _, rfl, (Sees.of rfl), rfl, rfl, rfl⟩⟩) rfl rfl rfl rfl) ?_
                  refine scons (r_callBC (ys := [.val (ints [((Sp.sortTo n l i).2.2.getD ((j : Int) - 1).toNat 0), -((Sp.sortTo n l i).1 + (j : Int) + 1)])]) (us := [.ref 30000 0 0]) rfl wSort_isf54 (add_spec [((Sp.sortTo n l i).2.2.getD ((j : Int) - 1).toNat 0), -((Sp.sortTo n l i).1 + (j : Int) + 1)] ((Sp.sortTo n l i).1 + (j : Int) + 1) ((((Sp.sortTo n l i).2.1 ++ Sp.sortIn (l.getD i 0) (Sp.sortTo n l i).1 (Sp.sortTo n l i).2.2 j) ++ [[-(l.getD i 0), -((Sp.sortTo n l i).2.2.getD ((j : Int) - 1).toNat 0), ((Sp.sortTo n l i).1 + (j : Int) + 1)]]) ++ [[(l.getD i 0), -((Sp.sortTo n l i).1 + (j : Int) + 1)]]) 0 (q + 1 + 1) (by simp only [List.length_append, List.length_cons, List.length_nil]; omega)) (Sees.of rfl) ⟨_, _, rfl, (Sees.of rfl), rfl⟩ ⟨rfl, rfl, trivial⟩ rfl rfl rfl rfl rfl rfl) ?_
                  refine snil ?_
                  refine f_nil ?_
                  show AWs _ _ _ _ _
                  refine f_nil ?_
                  show AWs _ _ _ _ _
                  refine f_region ?_
                  refine scons (CStep.step (PStep.c (p_add rfl (Sees.of rfl) (Sees.of rfl) (by omega))) rfl rfl rfl rfl) ?_
                  refine scons (CStep.step (PStep.c (p_move (y := .val _) rfl (Sees.of rfl) rfl)) rfl rfl rfl rfl) ?_
                  refine snil ?_
                  have e : (Sp.sortTo n l i).2.1 ++ Sp.sortIn (l.getD i 0) (Sp.sortTo n l i).1 (Sp.sortTo n l i).2.2 (j + 1) = (((((Sp.sortTo n l i).2.1 ++ Sp.sortIn (l.getD i 0) (Sp.sortTo n l i).1 (Sp.sortTo n l i).2.2 j) ++ [[-(l.getD i 0), -((Sp.sortTo n l i).2.2.getD ((j : Int) - 1).toNat 0), ((Sp.sortTo n l i).1 + (j : Int) + 1)]]) ++ [[(l.getD i 0), -((Sp.sortTo n l i).1 + (j : Int) + 1)]]) ++ [[((Sp.sortTo n l i).2.2.getD ((j : Int) - 1).toNat 0), -((Sp.sortTo n l i).1 + (j : Int) + 1)]]) := by
                    rw [Sp.sortIn, Sp.sortCl, if_neg (by rw [hbl]; omega), if_neg (by rw [hbl]; omega), if_pos (by omega)]
                    try rw [hj1]
                    simp
                  refine f_back ⟨(j + 1, q + 1 + 1 + 1, w + 1), ?_, ?_, le_ofL ⟨rfl, rfl, rfl, rfl, (by rw [Sp.news_succ]; rfl), rfl, rfl, rfl, rfl, rfl, rfl, (by rw [show (Sp.sortTo n l i).1 + ((j + 1 : Nat) : Int) = ((Sp.sortTo n l i).1 + (j : Int) + 1) by omega]; rfl), (by rw [e]; rfl), rfl, rfl, rfl, rfl, trivial⟩ rfl⟩
                  · show j + 1 ≤ i + 1
                    omega
                  · show i + 1 - (j + 1) < i + 1 - j
                    omega
                · intro hc6
                  try simp only [bs] at hc6
                  refine f_seq ?_
                  refine f_region ?_
                  refine scons (CStep.step (PStep.c (p_move (y := .clo _ _) rfl (Sees.of rfl) rfl)) rfl rfl rfl rfl) ?_
                  refine scons (CStep.step (PStep.c (p_move (y := .val _) rfl (Sees.of rfl) rfl)) rfl rfl rfl rfl) ?_
                  refine scons (CStep.step (PStep.c (p_neg rfl (Sees.of rfl) (by omega))) rfl rfl rfl rfl) ?_
                  refine scons (CStep.step (PStep.c (p_move (y := .val _) rfl (Sees.of rfl) rfl)) rfl rfl rfl rfl) ?_
                  refine scons (CStep.step (c_buildSlice (f := di) (za := 0) (xs := [.tmp 56, .tmp 57]) rfl rfl wSort_isl22 wSort_siz3 wSort_zer3 rfl rfl ⟨_, _, rfl, (Sees.of rfl), rfl, rfl, ⟨_, _, rfl, (Sees.of rfl), rfl, rfl, rfl⟩⟩) rfl rfl rfl rfl) ?_
                  refine scons (r_callBC (ys := [.val (ints [-(l.getD i 0), ((Sp.sortTo n l i).1 + (j : Int) + 1)])]) (us := [.ref 30000 0 0]) rfl wSort_isf54 (add_spec [-(l.getD i 0), ((Sp.sortTo n l i).1 + (j : Int) + 1)] ((Sp.sortTo n l i).1 + (j : Int) + 1) ((Sp.sortTo n l i).2.1 ++ Sp.sortIn (l.getD i 0) (Sp.sortTo n l i).1 (Sp.sortTo n l i).2.2 j) 0 q (by simp only [List.length_append, List.length_cons, List.length_nil]; omega)) (Sees.of rfl) ⟨_, _, rfl, (Sees.of rfl), rfl⟩ ⟨rfl, rfl, trivial⟩ rfl rfl rfl rfl rfl rfl) ?_
                  refine snil ?_
                  refine f_region ?_
                  refine scons (CStep.step (PStep.c (p_move (y := .clo _ _) rfl (Sees.of rfl) rfl)) rfl rfl rfl rfl) ?_
                  refine scons (CStep.step (PStep.c (p_move (y := .val _) rfl (Sees.of rfl) rfl)) rfl rfl rfl rfl) ?_
                  refine scons (CStep.step (PStep.c (p_move (y := .val _) rfl (Sees.of rfl) rfl)) rfl rfl rfl rfl) ?_
                  refine scons (CStep.step (PStep.c (p_neg rfl (Sees.of rfl) (by omega))) rfl rfl rfl rfl) ?_
                  refine scons (CStep.step (c_buildSlice (f := di) (za := 0) (xs := [.tmp 61, .tmp 63]) rfl rfl wSort_isl22 wSort_siz3 wSort_zer3 rfl rfl ⟨_, _, rfl, (Sees.of rfl), rfl, rfl, ⟨_, _, rfl, (Sees.of rfl), rfl, rfl, rfl⟩⟩) rfl rfl rfl rfl) ?_
                  refine scons (r_callBC (ys := [.val (ints [(l.getD i 0), -((Sp.sortTo n l i).1 + (j : Int) + 1)])]) (us := [.ref 30000 0 0]) rfl wSort_isf54 (add_spec [(l.getD i 0), -((Sp.sortTo n l i).1 + (j : Int) + 1)] ((Sp.sortTo n l i).1 + (j : Int) + 1) (((Sp.sortTo n l i).2.1 ++ Sp.sortIn (l.getD i 0) (Sp.sortTo n l i).1 (Sp.sortTo n l i).2.2 j) ++ [[-(l.getD i 0), ((Sp.sortTo n l i).1 + (j : Int) + 1)]]) 0 (q + 1) (by simp only [List.length_append, List.length_cons, List.length_nil]; omega)) (Sees.of rfl) ⟨_, _, rfl, (Sees.of rfl), rfl⟩ ⟨rfl, rfl, trivial⟩ rfl rfl rfl rfl rfl rfl) ?_
                  refine snil ?_
                  refine f_nil ?_
                  show AWs _ _ _ _ _
                  refine f_nil ?_
                  show AWs _ _ _ _ _
                  refine f_region ?_
                  refine scons (CStep.step (PStep.c (p_add rfl (Sees.of rfl) (Sees.of rfl) (by omega))) rfl rfl rfl rfl) ?_
                  refine scons (CStep.step (PStep.c (p_move (y := .val _) rfl (Sees.of rfl) rfl)) rfl rfl rfl rfl) ?_
                  refine snil ?_
                  have e : (Sp.sortTo n l i).2.1 ++ Sp.sortIn (l.getD i 0) (Sp.sortTo n l i).1 (Sp.sortTo n l i).2.2 (j + 1) = ((((Sp.sortTo n l i).2.1 ++ Sp.sortIn (l.getD i 0) (Sp.sortTo n l i).1 (Sp.sortTo n l i).2.2 j) ++ [[-(l.getD i 0), ((Sp.sortTo n l i).1 + (j : Int) + 1)]]) ++ [[(l.getD i 0), -((Sp.sortTo n l i).1 + (j : Int) + 1)]]) := by
                    rw [Sp.sortIn, Sp.sortCl, if_neg (by rw [hbl]; omega), if_neg (by rw [hbl]; omega), if_neg (by omega)]
                    try rw [hj1]
                    simp
                  refine f_back ⟨(j + 1, q + 1 + 1, w + 1), ?_, ?_, le_ofL ⟨rfl, rfl, rfl, rfl, (by rw [Sp.news_succ]; rfl), rfl, rfl, rfl, rfl, rfl, rfl, (by rw [show (Sp.sortTo n l i).1 + ((j + 1 : Nat) : Int) = ((Sp.sortTo n l i).1 + (j : Int) + 1) by omega]; rfl), (by rw [e]; rfl), rfl, rfl, rfl, rfl, trivial⟩ rfl⟩
                  · show j + 1 ≤ i + 1
                    omega
                  · show i + 1 - (j + 1) < i + 1 - j
                    omega
          · intro hc3
            try simp only [bs] at hc3
            refine f_exit ?_
            show AWs _ _ _ _ _
            obtain rfl : j = i + 1 := by omega
            refine f_le (GLe.le (g_freeze (k := 13) (o1 := 20013) rfl rfl rfl rfl)) ?_ (by simp)
            refine f_region ?_
            refine scons (CStep.step (PStep.c (p_move (y := .val _) rfl (Sees.of rfl) rfl)) rfl rfl rfl rfl) ?_
            refine scons (CStep.step (PStep.c (p_assign (y := .val _) rfl (Sees.of rfl) rfl)) rfl rfl rfl rfl) ?_
            refine snil ?_
            refine f_nil ?_
            show AWs _ _ _ _ _
            refine f_region ?_
            refine scons (CStep.step (PStep.c (p_add rfl (Sees.of rfl) (Sees.of rfl) (by omega))) rfl rfl rfl rfl) ?_
            refine scons (CStep.step (PStep.c (p_move (y := .val _) rfl (Sees.of rfl) rfl)) rfl rfl rfl rfl) ?_
            refine snil ?_
            refine f_back ⟨(i + 1, q), ?_, ?_, le_ofL ⟨rfl, rfl, rfl, rfl, rfl, rfl, rfl, rfl, rfl, rfl, rfl, rfl, trivial⟩ rfl⟩
            · show i + 1 ≤ l.length
              omega
            · show l.length - (i + 1) < l.length - i
              omega
      · intro hc2
        try simp only [bs] at hc2
        refine f_exit ?_
        show AWs _ _ _ _ _
        refine f_seq ?_
        refine f_le (GLe.le (g_freezeB (ob := 30000) (off := 1) (o1 := 30001) rfl rfl rfl rfl rfl rfl rfl)) ?_ (by simp)
        refine f_region ?_
        refine scons (CStep.step (PStep.c (p_loadBS rfl wSort_agg26 wSort_siz26 (Sees.of rfl) rfl rfl rfl)) rfl rfl rfl rfl) ?_
        refine scons (CStep.step (PStep.c (p_move (y := .val _) rfl (Sees.of rfl) rfl)) rfl rfl rfl rfl) ?_
        refine scons (CStep.step (PStep.c (p_build rfl wSort_plc28 wSort_zer28 (by decide) wSort_zch28 rfl rfl)) rfl rfl rfl rfl) ?_
        refine scons (r_storeS rfl wSort_siz26 rfl rfl rfl (Sees.of rfl) rfl (Sees.of rfl) rfl rfl rfl rfl) ?_
        refine scons (CStep.step (PStep.c (p_assign (y := .val _) rfl (Sees.of rfl) rfl)) rfl rfl rfl rfl) ?_
        refine scons (r_storeS rfl wSort_siz28 rfl rfl rfl (Sees.of rfl) rfl (Sees.of rfl) rfl rfl rfl rfl) ?_
        refine snil ?_
        refine f_ret ?_
        refine ends_ret (res_eq (res3 rfl (res_cell (by rfl) rfl rfl wSort_agg26 wSort_siz26 rfl rfl) (res_tmp rfl (Sees.of rfl)) (res_cell (by rfl) rfl rfl wSort_agg28 wSort_siz28 rfl rfl)) ?_)
        obtain rfl : i = l.length := by omega
        rw [Sp.sorted, if_neg (fun h => h hc1)]
        all_goals rfl

end Go.Um
