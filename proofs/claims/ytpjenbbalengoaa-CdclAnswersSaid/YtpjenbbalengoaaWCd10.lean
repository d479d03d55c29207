/- Walks of Go functions of this seat, each by its contract. No condition beyond what each theorem says. -/
import Derived.Test.YtpjenbbalengoaaWCd9
import Derived.Test.YtpjenbbalengoaaWCd5
import Derived.Test.YtpjenbbalengoaaProg
import Derived.KernelRfl
set_option maxRecDepth 4000
namespace Go.Um
open Go Go.RowKit

theorem wCd10_agg119 : IsAgg Go.Proofs.Try.prog 119 true := by unfold IsAgg; kernel_rfl
theorem wCd10_agg24 : IsAgg Go.Proofs.Try.prog 24 false := by unfold IsAgg; kernel_rfl
theorem wCd10_agg3 : IsAgg Go.Proofs.Try.prog 3 false := by unfold IsAgg; kernel_rfl
theorem wCd10_agg33 : IsAgg Go.Proofs.Try.prog 33 false := by unfold IsAgg; kernel_rfl
theorem wCd10_agg37 : IsAgg Go.Proofs.Try.prog 37 false := by unfold IsAgg; kernel_rfl
theorem wCd10_agg39 : IsAgg Go.Proofs.Try.prog 39 true := by unfold IsAgg; kernel_rfl
theorem wCd10_agg41 : IsAgg Go.Proofs.Try.prog 41 true := by unfold IsAgg; kernel_rfl
theorem wCd10_agg44 : IsAgg Go.Proofs.Try.prog 44 false := by unfold IsAgg; kernel_rfl
theorem wCd10_agg46 : IsAgg Go.Proofs.Try.prog 46 true := by unfold IsAgg; kernel_rfl
theorem wCd10_byt119 : Bytes Go.Proofs.Try.prog 119 120 := by unfold Bytes; kernel_rfl
theorem wCd10_byt33 : Bytes Go.Proofs.Try.prog 33 24 := by unfold Bytes; kernel_rfl
theorem wCd10_fld119_0 : IsField Go.Proofs.Try.prog 119 0 0 3 := by unfold IsField; kernel_rfl
theorem wCd10_fld119_1 : IsField Go.Proofs.Try.prog 119 1 1 33 := by unfold IsField; kernel_rfl
theorem wCd10_fld26_0 : IsField Go.Proofs.Try.prog 26 0 0 3 := by unfold IsField; kernel_rfl
theorem wCd10_fld39_0 : IsField Go.Proofs.Try.prog 39 0 0 3 := by unfold IsField; kernel_rfl
theorem wCd10_fld39_1 : IsField Go.Proofs.Try.prog 39 1 1 37 := by unfold IsField; kernel_rfl
theorem wCd10_fld46_0 : IsField Go.Proofs.Try.prog 46 0 0 3 := by unfold IsField; kernel_rfl
theorem wCd10_fld46_1 : IsField Go.Proofs.Try.prog 46 1 1 24 := by unfold IsField; kernel_rfl
theorem wCd10_fld46_2 : IsField Go.Proofs.Try.prog 46 2 2 44 := by unfold IsField; kernel_rfl
theorem wCd10_fld46_3 : IsField Go.Proofs.Try.prog 46 3 3 33 := by unfold IsField; kernel_rfl
theorem wCd10_fld46_4 : IsField Go.Proofs.Try.prog 46 4 4 3 := by unfold IsField; kernel_rfl
theorem wCd10_isf19 : IsFn Go.Proofs.Try.prog 19 := by unfold IsFn; kernel_rfl
theorem wCd10_isf20 : IsFn Go.Proofs.Try.prog 20 := by unfold IsFn; kernel_rfl
theorem wCd10_isf21 : IsFn Go.Proofs.Try.prog 21 := by unfold IsFn; kernel_rfl
theorem wCd10_isf22 : IsFn Go.Proofs.Try.prog 22 := by unfold IsFn; kernel_rfl
theorem wCd10_isf23 : IsFn Go.Proofs.Try.prog 23 := by unfold IsFn; kernel_rfl
theorem wCd10_isf24 : IsFn Go.Proofs.Try.prog 24 := by unfold IsFn; kernel_rfl
theorem wCd10_isf25 : IsFn Go.Proofs.Try.prog 25 := by unfold IsFn; kernel_rfl
theorem wCd10_isf27 : IsFn Go.Proofs.Try.prog 27 := by unfold IsFn; kernel_rfl
theorem wCd10_isf72 : IsFn Go.Proofs.Try.prog 72 := by unfold IsFn; kernel_rfl
theorem wCd10_isf73 : IsFn Go.Proofs.Try.prog 73 := by unfold IsFn; kernel_rfl
theorem wCd10_isf74 : IsFn Go.Proofs.Try.prog 74 := by unfold IsFn; kernel_rfl
theorem wCd10_isf75 : IsFn Go.Proofs.Try.prog 75 := by unfold IsFn; kernel_rfl
theorem wCd10_isf76 : IsFn Go.Proofs.Try.prog 76 := by unfold IsFn; kernel_rfl
theorem wCd10_isf77 : IsFn Go.Proofs.Try.prog 77 := by unfold IsFn; kernel_rfl
theorem wCd10_isl24 : IsSlice Go.Proofs.Try.prog 24 4 := by unfold IsSlice; kernel_rfl
theorem wCd10_isl33 : IsSlice Go.Proofs.Try.prog 33 3 := by unfold IsSlice; kernel_rfl
theorem wCd10_isl37 : IsSlice Go.Proofs.Try.prog 37 33 := by unfold IsSlice; kernel_rfl
theorem wCd10_isl44 : IsSlice Go.Proofs.Try.prog 44 119 := by unfold IsSlice; kernel_rfl
theorem wCd10_mix : (Go.Proofs.Try.prog).follows .mixedOrders = true := by kernel_rfl
theorem wCd10_plc119 : Places Go.Proofs.Try.prog 119 [(0, 1), (1, 1), (2, 1), (3, 6)] := by unfold Places; kernel_rfl
theorem wCd10_plc39 : Places Go.Proofs.Try.prog 39 [(0, 1), (1, 1)] := by unfold Places; kernel_rfl
theorem wCd10_siz119 : Size Go.Proofs.Try.prog 119 9 := by unfold Size; kernel_rfl
theorem wCd10_siz24 : Size Go.Proofs.Try.prog 24 1 := by unfold Size; kernel_rfl
theorem wCd10_siz26 : Size Go.Proofs.Try.prog 26 2 := by unfold Size; kernel_rfl
theorem wCd10_siz3 : Size Go.Proofs.Try.prog 3 1 := by unfold Size; kernel_rfl
theorem wCd10_siz33 : Size Go.Proofs.Try.prog 33 1 := by unfold Size; kernel_rfl
theorem wCd10_siz37 : Size Go.Proofs.Try.prog 37 1 := by unfold Size; kernel_rfl
theorem wCd10_siz39 : Size Go.Proofs.Try.prog 39 2 := by unfold Size; kernel_rfl
theorem wCd10_siz41 : Size Go.Proofs.Try.prog 41 4 := by unfold Size; kernel_rfl
theorem wCd10_siz44 : Size Go.Proofs.Try.prog 44 1 := by unfold Size; kernel_rfl
theorem wCd10_siz46 : Size Go.Proofs.Try.prog 46 5 := by unfold Size; kernel_rfl
def wCd10_z119 : D := .cons (.int .i64 0) (.cons (ints []) (.cons (fras []) (.cons (.int .i64 0) (.cons (.int .i64 0) (.cons (.int .i64 0) (.cons (ints []) (.cons (.int .i64 0) (.cons (.int .i64 0) (.nil)))))))))
theorem wCd10_zch119 : ∀ (ok : Nat → Prop) (w : World), R Go.Proofs.Try.prog wCd10_z119 ok w (Value.cells (.agg #[(.int .i64 0), (.slice none 0 0), (.slice none 0 0), (.int .i64 0), (.int .i64 0), (.int .i64 0), (.slice none 0 0), (.int .i64 0), (.int .i64 0)])).toList := fun _ _ => z_int (z_list (z_list (z_int (z_int (z_int (z_list (z_int (z_int (z_nil)))))))))
theorem wCd10_zer119 : Zero Go.Proofs.Try.prog 119 (.agg #[(.int .i64 0), (.slice none 0 0), (.slice none 0 0), (.int .i64 0), (.int .i64 0), (.int .i64 0), (.slice none 0 0), (.int .i64 0), (.int .i64 0)]) := by unfold Zero; kernel_rfl
theorem wCd10_zer26 : Zero Go.Proofs.Try.prog 26 (.agg #[(.int .i64 0), (.int .i64 0)]) := by unfold Zero; kernel_rfl
theorem wCd10_zer3 : Zero Go.Proofs.Try.prog 3 (.int .i64 0) := by unfold Zero; kernel_rfl
theorem wCd10_zer33 : Zero Go.Proofs.Try.prog 33 (.slice none 0 0) := by unfold Zero; kernel_rfl
theorem wCd10_zer39 : Zero Go.Proofs.Try.prog 39 (.agg #[(.int .i64 0), (.slice none 0 0)]) := by unfold Zero; kernel_rfl
theorem wCd10_zer46 : Zero Go.Proofs.Try.prog 46 (.agg #[(.int .i64 0), (.slice none 0 0), (.slice none 0 0), (.slice none 0 0), (.int .i64 0)]) := by unfold Zero; kernel_rfl

theorem closed_spec (m : Nat) (ls : List (List Int)) (A : Sp.Ans) (hl : ls.length ≤ 1000) (hs : A.2.2.1.length ≤ 100000) (hc : A.2.2.2.1.length ≤ 100000) :
    Spec Go.Proofs.Try.prog 75 [.val (cnf m ls), .val (ans A.1 A.2.1 (lrn A.2.2.1) A.2.2.2.1 A.2.2.2.2)] (two (cnf m (ls ++ Sp.ones A.2.2.2.1)) (stps (lrn (A.2.2.1 ++ [[]])))) := by
  refine spec_of' Go.Proofs.Try.func75 rfl Go.Proofs.Try.ntmps75 rfl ?_
  refine f_seq ?_
  have hsl := Sp.lrn_len A.2.2.1
  refine f_region ?_
  refine scons (r_box (ob := 10002) rfl (Sees.of rfl) rfl rfl rfl rfl rfl rfl) ?_
  refine scons (r_box (ob := 10003) rfl (Sees.of rfl) rfl rfl rfl rfl rfl rfl) ?_
  refine scons (r_alloc (ob := 10004) rfl wCd10_zer39 rfl rfl rfl rfl rfl rfl) ?_
  refine scons (CStep.step (PStep.c (p_assign (y := .emp) rfl (Sees.of rfl) rfl)) rfl rfl rfl rfl) ?_
  refine snil ?_
  refine f_seq ?_
  refine f_draw wCd10_mix (by kernel_rfl) ?_
  refine dcons (CStep.step (PStep.c (p_fieldRef rfl wCd10_fld39_0 wCd10_siz3 rfl (Sees.of rfl) rfl)) rfl rfl rfl rfl) ?_
  refine dcons (CStep.step (PStep.c (p_loadB (y := .val _) rfl wCd10_agg3 (Sees.of rfl) rfl rfl rfl rfl)) rfl rfl rfl rfl) ?_
  refine dcons (r_buildRow (f := ints) (za := []) (xs := []) (by_ := 24) (ob := 30000) rfl rfl wCd10_isl37 wCd10_siz33 wCd10_zer33 rfl rfl (by decide) rfl rfl rfl rfl rfl rfl) ?_
  refine dcons (CStep.step (PStep.c (p_fieldRef rfl wCd10_fld39_1 wCd10_siz37 rfl (Sees.of rfl) rfl)) rfl rfl rfl rfl) ?_
  refine dcons (CStep.step (PStep.c (p_loadB (y := .val _) rfl wCd10_agg37 (Sees.of rfl) rfl rfl rfl rfl)) rfl rfl rfl rfl) ?_
  refine dcons (r_appendR (ob := 30000) rfl wCd10_isl37 wCd10_siz33 wCd10_byt33 wCd10_zer33 rfl rfl (Sees.of rfl) rfl (Sees.of rfl) (by simp only [List.length_cons, List.length_nil, List.length_append]; omega) (by simp only [List.length_cons, List.length_nil, List.length_append]; omega) rfl rfl rfl rfl rfl) ?_
  refine dcons (CStep.step (PStep.c (p_buildV rfl wCd10_plc39 wCd10_zer39 rfl rfl ⟨_, _, _, _, _, rfl, rfl, rfl, (Sees.of rfl), (oneAt_val rfl), ⟨_, _, _, _, _, rfl, rfl, rfl, (Sees.of rfl), (oneAt_row rfl), ⟨rfl, rfl⟩⟩⟩ rfl)) rfl rfl rfl rfl) ?_
  refine dcons (r_alloc (ob := 10006) rfl wCd10_zer39 rfl rfl rfl rfl rfl rfl) ?_
  refine dcons (r_storeV rfl wCd10_siz39 rfl rfl rfl (Sees.of rfl) rfl (Sees.of rfl) rfl rfl rfl rfl) ?_
  refine dnil (by kernel_rfl) ?_
  refine f_seq ?_
  refine f_seq ?_
  refine f_region ?_
  refine scons (CStep.step (PStep.c (p_assign (y := .val _) rfl (Sees.of rfl) rfl)) rfl rfl rfl rfl) ?_
  refine snil ?_
  refine f_block ?_
  refine f_loop (α := Nat × Nat) (fun (i, u) => i ≤ A.2.2.2.1.length) (fun (i, u) => [(3, .ref 10003 0 0), (10003, .box 0 (.ccons (iv A.1) (.ccons (.val (bools A.2.1)) (.ccons (.val (stps (lrn A.2.2.1))) (.ccons (.val (ints A.2.2.2.1)) (.ccons (iv A.2.2.2.2) .cnil)))))), (6, .ref 10006 0 0), (10006, .box 0 (.ccons (iv m) (.ccons (.row 30000 u) .cnil))), (7, iv i), (30000, .arr u 33 1 24 ints [] (ls ++ Sp.ones (A.2.2.2.1.take i))), (4, .ref 10004 0 0), (5, .emp), (10004, .box 0 (.ccons (iv 0) (.ccons (.emp) .cnil)))]) (fun (i, u) => A.2.2.2.1.length - i) (0, 1) ?_ ?_ ?_
  · exact Nat.zero_le _
  · exact le_ofL ⟨rfl, rfl, rfl, rfl, rfl, (by show _ = AV.arr _ _ _ _ _ _ (ls ++ []); rw [List.append_nil]; rfl), rfl, rfl, rfl, trivial⟩ rfl
  · rintro ⟨i, u⟩ hi
    have hi : i ≤ A.2.2.2.1.length := hi
    refine f_seq ?_
    refine f_seq ?_
    refine f_region ?_
    refine scons (CStep.step (PStep.c (p_move (y := .val _) rfl (Sees.of rfl) rfl)) rfl rfl rfl rfl) ?_
    refine scons (CStep.step (PStep.c (p_fieldRef rfl wCd10_fld46_3 wCd10_siz33 rfl (Sees.of rfl) rfl)) rfl rfl rfl rfl) ?_
    refine scons (CStep.step (PStep.c (p_loadB (y := .val _) rfl wCd10_agg33 (Sees.of rfl) rfl rfl rfl rfl)) rfl rfl rfl rfl) ?_
    refine scons (CStep.step (PStep.c (p_len rfl wCd10_isl33 (Sees.of rfl))) rfl rfl rfl rfl) ?_
    refine scons (CStep.step (PStep.c (p_lss rfl (Sees.of rfl) (Sees.of rfl))) rfl rfl rfl rfl) ?_
    refine snil ?_
    refine f_cond rfl ?_ ?_
    · intro hc1
      try simp only [bs] at hc1
      refine f_skip ?_
      refine f_seq ?_
      refine f_block ?_
      refine f_draw wCd10_mix (by kernel_rfl) ?_
      refine dcons (CStep.step (PStep.c (p_fieldRef rfl wCd10_fld39_1 wCd10_siz37 rfl (Sees.of rfl) rfl)) rfl rfl rfl rfl) ?_
      refine dcons (CStep.step (PStep.c (p_loadB (y := .row _ _) rfl wCd10_agg37 (Sees.of rfl) rfl rfl rfl rfl)) rfl rfl rfl rfl) ?_
      refine dcons (CStep.step (PStep.c (p_fieldRef rfl wCd10_fld46_3 wCd10_siz33 rfl (Sees.of rfl) rfl)) rfl rfl rfl rfl) ?_
      refine dcons (CStep.step (PStep.c (p_loadB (y := .val _) rfl wCd10_agg33 (Sees.of rfl) rfl rfl rfl rfl)) rfl rfl rfl rfl) ?_
      refine dcons (CStep.step (PStep.c (p_move (y := .val _) rfl (Sees.of rfl) rfl)) rfl rfl rfl rfl) ?_
      refine dcons (CStep.step (PStep.c ((by first | exact p_indexN rfl wCd10_isl33 wCd10_siz3 (Sees.of rfl) (Sees.of rfl) (by omega) | exact p_index rfl wCd10_isl33 wCd10_siz3 (Sees.of rfl) (Sees.of rfl) (by omega) (by omega)))) rfl rfl rfl rfl) ?_
      refine dcons (CStep.step (PStep.c (p_load rfl wCd10_agg3 (Sees.of rfl) rfl)) rfl rfl rfl rfl) ?_
      refine dcons (CStep.step (c_buildSlice (f := di) (za := 0) (xs := [.tmp 28]) rfl rfl wCd10_isl33 wCd10_siz3 wCd10_zer3 rfl rfl ⟨_, _, rfl, (Sees.of rfl), rfl, rfl, rfl⟩) rfl rfl rfl rfl) ?_
      refine dcons (CStep.step (c_buildSlice (f := ints) (za := []) (xs := [.tmp 29]) rfl rfl wCd10_isl37 wCd10_siz33 wCd10_zer33 rfl rfl ⟨_, _, rfl, (Sees.of rfl), rfl, rfl, rfl⟩) rfl rfl rfl rfl) ?_
      refine dcons (r_appendR (ob := 30000) rfl wCd10_isl37 wCd10_siz33 wCd10_byt33 wCd10_zer33 rfl rfl (Sees.of rfl) rfl (Sees.of rfl) (by simp only [List.length_append, Sp.ones, List.length_map, List.length_take, List.length_cons, List.length_nil]; omega) (by simp only [List.length_append, Sp.ones, List.length_map, List.length_take, List.length_cons, List.length_nil]; omega) rfl rfl rfl rfl rfl) ?_
      refine dcons (CStep.step (PStep.c (p_fieldRef rfl wCd10_fld39_1 wCd10_siz37 rfl (Sees.of rfl) rfl)) rfl rfl rfl rfl) ?_
      refine dcons (r_storeR rfl wCd10_siz37 rfl rfl rfl (Sees.of rfl) rfl rfl (Sees.of rfl) rfl) ?_
      refine dnil (by kernel_rfl) ?_
      refine f_nil ?_
      show AWs _ _ _ _ _
      refine f_region ?_
      refine scons (CStep.step (PStep.c (p_move (y := .val _) rfl (Sees.of rfl) rfl)) rfl rfl rfl rfl) ?_
      refine scons (CStep.step (PStep.c (p_add rfl (Sees.of rfl) (Sees.of rfl) (by omega))) rfl rfl rfl rfl) ?_
      refine scons (CStep.step (PStep.c (p_assign (y := .val _) rfl (Sees.of rfl) rfl)) rfl rfl rfl rfl) ?_
      refine snil ?_
      refine f_back ⟨(i + 1, u + 1), ?_, ?_, le_ofL ⟨rfl, rfl, rfl, rfl, rfl, (by rw [Sp.ones_take (by omega), ← List.append_assoc]; rfl), rfl, rfl, rfl, trivial⟩ rfl⟩
      · show i + 1 ≤ _
        omega
      · show _ - (i + 1) < _ - i
        omega
    · intro hc1
      try simp only [bs] at hc1
      refine f_exit ?_
      show AWs _ _ _ _ _
      refine f_seq ?_
      obtain rfl : i = A.2.2.2.1.length := by omega
      refine f_le (GLe.le (g_freezeB (ob := 10006) (off := 1) (o1 := 30000) rfl rfl rfl rfl rfl rfl rfl)) ?_ (by simp)
      refine f_draw wCd10_mix (by kernel_rfl) ?_
      refine dcons (CStep.step (PStep.c (p_loadBS rfl wCd10_agg39 wCd10_siz39 (Sees.of rfl) rfl rfl rfl)) rfl rfl rfl rfl) ?_
      refine dcons (r_buildRow (f := dStp) (za := (0, [])) (xs := []) (by_ := 120) (ob := 30002) rfl rfl wCd10_isl44 wCd10_siz119 wCd10_zer119 rfl rfl (by decide) rfl rfl rfl rfl rfl rfl) ?_
      refine dcons (CStep.step (PStep.c (p_fieldRef rfl wCd10_fld46_2 wCd10_siz44 rfl (Sees.of rfl) rfl)) rfl rfl rfl rfl) ?_
      refine dcons (CStep.step (PStep.c (p_loadB (y := .val _) rfl wCd10_agg44 (Sees.of rfl) rfl rfl rfl rfl)) rfl rfl rfl rfl) ?_
      refine dcons (r_appendR (ob := 30002) rfl wCd10_isl44 wCd10_siz119 wCd10_byt119 wCd10_zer119 rfl rfl (Sees.of rfl) rfl (Sees.of rfl) (by simp only [List.length_cons, List.length_nil, List.length_append]; omega) (by simp only [List.length_cons, List.length_nil, List.length_append]; omega) rfl rfl rfl rfl rfl) ?_
      refine dcons (CStep.step (PStep.c (p_build rfl wCd10_plc119 wCd10_zer119 (by decide) wCd10_zch119 ⟨_, _, _, rfl, rfl, rfl, (Sees.of rfl), rfl⟩ rfl)) rfl rfl rfl rfl) ?_
      refine dcons (CStep.step (c_buildSlice (f := dStp) (za := (0, [])) (xs := [.tmp 38]) rfl rfl wCd10_isl44 wCd10_siz119 wCd10_zer119 rfl rfl ⟨(_, _), _, rfl, (Sees.of rfl), rfl, rfl, rfl⟩) rfl rfl rfl rfl) ?_
      refine dcons (r_appendR (ob := 30002) rfl wCd10_isl44 wCd10_siz119 wCd10_byt119 wCd10_zer119 rfl rfl (Sees.of rfl) rfl (Sees.of rfl) (by simp only [List.length_append, List.length_cons, List.length_nil]; omega) (by simp only [List.length_append, List.length_cons, List.length_nil]; omega) rfl rfl rfl rfl rfl) ?_
      refine dcons (r_storeS rfl wCd10_siz39 rfl rfl rfl (Sees.of rfl) rfl (Sees.of rfl) rfl rfl rfl rfl) ?_
      refine dcons (CStep.step (PStep.c (p_assign (y := .row _ _) rfl (Sees.of rfl) rfl)) rfl rfl rfl rfl) ?_
      refine dnil (by kernel_rfl) ?_
      refine f_ret ?_
      refine ends_ret (res_eq (res2 rfl (res_cell (by rfl) rfl rfl wCd10_agg39 wCd10_siz39 rfl rfl) (res_row rfl rfl rfl)) ?_)
      rw [List.take_length, show lrn (A.2.2.1 ++ [[]]) = lrn A.2.2.1 ++ [(1, [])] from List.map_append ..]
      rfl

theorem noL_spec (m : Nat) (ls : List (List Int)) (asked : List Int) (A : Sp.Ans) (fuel : Int) (hf : Sp.Fit m ls asked) (hck : (Sp.check m ls).1 = 0) (hm : m ≤ 12) (hl : ls.length ≤ 40) (h : Sp.OutN m ls asked A) (hu : A.2.2.2.2 ≤ fuel) (hfu : fuel ≤ 2000) :
    Spec Go.Proofs.Try.prog 25 [.val (cnf m ls), .val (ints asked), .val (ans A.1 A.2.1 (lrn A.2.2.1) A.2.2.2.1 A.2.2.2.2)] (D.bool true) := by
  refine spec_of' Go.Proofs.Try.func25 rfl Go.Proofs.Try.ntmps25 rfl ?_
  refine f_seq ?_
  have hsl := Sp.lrn_len A.2.2.1
  obtain ⟨hla0, hla⟩ := h.last
  have hfw := h.few hu hfu
  have hcl := h.clen hf
  have hno := h.no
  have hct := Sp.closed_taken hf hck hm hl h hu hfu
  have hnl : ∀ x ∈ (Sp.negL A.2.2.2.1), -1000 ≤ x ∧ x ≤ 1000 := fun x hx => by
    obtain ⟨y, hy, rfl⟩ := List.mem_map.1 hx
    have := hf.ga y (h.sub y hy)
    omega
  have hnll : (Sp.negL A.2.2.2.1).length = A.2.2.2.1.length := List.length_map _
  refine f_region ?_
  refine scons (r_box (ob := 10003) rfl (Sees.of rfl) rfl rfl rfl rfl rfl rfl) ?_
  refine scons (r_box (ob := 10005) rfl (Sees.of rfl) rfl rfl rfl rfl rfl rfl) ?_
  refine scons (CStep.step (PStep.c (p_assign (y := .val _) rfl (Sees.of rfl) rfl)) rfl rfl rfl rfl) ?_
  refine snil ?_
  refine f_seq ?_
  refine f_seq ?_
  refine f_region ?_
  refine scons (CStep.step (PStep.c (p_fieldRef rfl wCd10_fld46_1 wCd10_siz24 rfl (Sees.of rfl) rfl)) rfl rfl rfl rfl) ?_
  refine scons (CStep.step (PStep.c (p_loadB (y := .val _) rfl wCd10_agg24 (Sees.of rfl) rfl rfl rfl rfl)) rfl rfl rfl rfl) ?_
  refine scons (CStep.step (PStep.c (p_len rfl wCd10_isl24 (Sees.of rfl))) rfl rfl rfl rfl) ?_
  refine scons (CStep.step (PStep.c (p_gtr rfl (Sees.of rfl) (Sees.of rfl))) rfl rfl rfl rfl) ?_
  refine scons (CStep.step (PStep.c (p_move (y := .val _) rfl (Sees.of rfl) rfl)) rfl rfl rfl rfl) ?_
  refine scons (CStep.guard rfl rfl rfl (fun hg0 => PStep.c (p_move (y := .val _) rfl (Sees.of rfl) rfl)) rfl rfl rfl rfl rfl) ?_
  refine scons (CStep.guard rfl rfl rfl (fun hg0 => PStep.c (p_fieldRef rfl wCd10_fld46_3 wCd10_siz33 rfl (Sees.of rfl) rfl)) rfl rfl rfl rfl rfl) ?_
  refine scons (CStep.guard rfl rfl rfl (fun hg0 => PStep.c (p_loadB (y := .val _) rfl wCd10_agg33 (Sees.gv' rfl hg0) rfl rfl rfl rfl)) rfl rfl rfl rfl rfl) ?_
  refine scons (CStep.guard rfl rfl rfl (fun hg0 => c_call rfl wCd10_isf27 ⟨_, _, rfl, (Sees.gv' rfl hg0), rfl, ⟨_, _, rfl, (Sees.gv' rfl hg0), rfl, rfl⟩⟩ (coreFine_spec asked A.2.2.2.1 h.sub h.up)) rfl rfl rfl rfl rfl) ?_
  refine scons (CStep.guard rfl rfl rfl (fun hg0 => PStep.c (p_not rfl (Sees.gv' rfl hg0))) rfl rfl rfl rfl rfl) ?_
  refine scons (CStep.step (PStep.c (p_or rfl (Sees.of rfl) (Sees.of rfl) (fun h => Sees.gv' rfl (beq_of_eq h)))) rfl rfl rfl rfl) ?_
  refine scons (CStep.step (PStep.c (p_move (y := .val _) rfl (Sees.of rfl) rfl)) rfl rfl rfl rfl) ?_
  refine scons (CStep.guard rfl rfl rfl (fun hg0 => PStep.c (p_fieldRef rfl wCd10_fld46_2 wCd10_siz44 rfl (Sees.of rfl) rfl)) rfl rfl rfl rfl rfl) ?_
  refine scons (CStep.guard rfl rfl rfl (fun hg0 => PStep.c (p_loadB (y := .val _) rfl wCd10_agg44 (Sees.gv' rfl hg0) rfl rfl rfl rfl)) rfl rfl rfl rfl rfl) ?_
  refine scons (CStep.guard rfl rfl rfl (fun hg0 => PStep.c (p_len rfl wCd10_isl44 (Sees.gv' rfl hg0))) rfl rfl rfl rfl rfl) ?_
  refine scons (CStep.guard rfl rfl rfl (fun hg0 => PStep.c (p_eql rfl (Sees.gv' rfl hg0) (Sees.of rfl))) rfl rfl rfl rfl rfl) ?_
  refine scons (CStep.step (PStep.c (p_or rfl (Sees.of rfl) (Sees.of rfl) (fun h => Sees.gv' rfl (beq_of_eq h)))) rfl rfl rfl rfl) ?_
  refine scons (CStep.step (PStep.c (p_move (y := .val _) rfl (Sees.of rfl) rfl)) rfl rfl rfl rfl) ?_
  refine scons (CStep.guard rfl rfl rfl (fun hg0 => PStep.c (p_fieldRef rfl wCd10_fld46_2 wCd10_siz44 rfl (Sees.of rfl) rfl)) rfl rfl rfl rfl rfl) ?_
  refine scons (CStep.guard rfl rfl rfl (fun hg0 => PStep.c (p_loadB (y := .val _) rfl wCd10_agg44 (Sees.gv' rfl hg0) rfl rfl rfl rfl)) rfl rfl rfl rfl rfl) ?_
  refine scons (CStep.guard rfl rfl rfl (fun hg0 => PStep.c (p_len rfl wCd10_isl44 (Sees.gv' rfl hg0))) rfl rfl rfl rfl rfl) ?_
  refine scons (CStep.guard rfl rfl rfl (fun hg0 => PStep.c (p_gtr rfl (Sees.gv' rfl hg0) (Sees.of rfl))) rfl rfl rfl rfl rfl) ?_
  refine scons (CStep.step (PStep.c (p_or rfl (Sees.of rfl) (Sees.of rfl) (fun h => Sees.gv' rfl (beq_of_eq h)))) rfl rfl rfl rfl) ?_
  refine snil ?_
  refine f_cond rfl ?_ ?_
  · intro hc1
    try simp only [bs] at hc1
    exfalso
    rcases hc1 with ((h1 | h1) | h1) | h1
    · rw [hno] at h1
      simp at h1
    · simp at h1
    · omega
    · omega
  · intro hc1
    try simp only [bs] at hc1
    refine f_skip ?_
    refine f_seq ?_
    refine f_region ?_
    refine scons (CStep.step (PStep.c (p_fieldRef rfl wCd10_fld46_2 wCd10_siz44 rfl (Sees.of rfl) rfl)) rfl rfl rfl rfl) ?_
    refine scons (CStep.step (PStep.c (p_loadB (y := .val _) rfl wCd10_agg44 (Sees.of rfl) rfl rfl rfl rfl)) rfl rfl rfl rfl) ?_
    refine scons (CStep.step (PStep.c (p_fieldRef rfl wCd10_fld46_2 wCd10_siz44 rfl (Sees.of rfl) rfl)) rfl rfl rfl rfl) ?_
    refine scons (CStep.step (PStep.c (p_loadB (y := .val _) rfl wCd10_agg44 (Sees.of rfl) rfl rfl rfl rfl)) rfl rfl rfl rfl) ?_
    refine scons (CStep.step (PStep.c (p_len rfl wCd10_isl44 (Sees.of rfl))) rfl rfl rfl rfl) ?_
    refine scons (CStep.step (PStep.c (p_sub rfl (Sees.of rfl) (Sees.of rfl) (by omega))) rfl rfl rfl rfl) ?_
    refine scons (CStep.step (PStep.c ((by first | exact p_indexN rfl wCd10_isl44 wCd10_siz119 (Sees.of rfl) (Sees.of rfl) (by omega) | exact p_index rfl wCd10_isl44 wCd10_siz119 (Sees.of rfl) (Sees.of rfl) (by omega) (by omega)))) rfl rfl rfl rfl) ?_
    refine scons (CStep.step (PStep.c (p_loadS rfl wCd10_agg119 wCd10_siz119 (Sees.of rfl) ⟨rfl, fun h => R_len rfl h⟩)) rfl rfl rfl rfl) ?_
    refine scons (r_alloc (ob := 10007) rfl wCd10_zer119 rfl rfl rfl rfl rfl rfl) ?_
    refine scons (r_storeS rfl wCd10_siz119 rfl rfl rfl (Sees.of rfl) rfl (Sees.of rfl) rfl rfl rfl rfl) ?_
    refine snil ?_
    refine f_seq ?_
    refine f_seq ?_
    rw [hla]
    refine f_draw wCd10_mix (by kernel_rfl) ?_
    refine dcons (CStep.step (PStep.c (p_fieldRef rfl wCd10_fld119_0 wCd10_siz3 rfl (Sees.of rfl) rfl)) rfl rfl rfl rfl) ?_
    refine dcons (CStep.step (PStep.c (p_loadB (y := .val _) rfl wCd10_agg3 (Sees.of rfl) rfl rfl rfl rfl)) rfl rfl rfl rfl) ?_
    refine dcons (CStep.step (PStep.c (p_neq rfl (Sees.of rfl) (Sees.of rfl))) rfl rfl rfl rfl) ?_
    refine dcons (CStep.step (PStep.c (p_move (y := .val _) rfl (Sees.of rfl) rfl)) rfl rfl rfl rfl) ?_
    refine dcons (CStep.guard rfl rfl rfl (fun hg0 => PStep.c (p_fieldRef rfl wCd10_fld119_1 wCd10_siz33 rfl (Sees.of rfl) rfl)) rfl rfl rfl rfl rfl) ?_
    refine dcons (CStep.guard rfl rfl rfl (fun hg0 => PStep.c (p_loadB (y := .val _) rfl wCd10_agg33 (Sees.gv' rfl hg0) rfl rfl rfl rfl)) rfl rfl rfl rfl rfl) ?_
    refine dcons (CStep.guard rfl rfl rfl (fun hg0 => by have hp0 := hg0; (try simp only [bs] at hp0); exact c_call rfl wCd10_isf73 ⟨_, _, rfl, (Sees.gv' rfl hg0), rfl, rfl⟩ (sortedR_spec (Sp.negL A.2.2.2.1) (by omega) (fun x hx => by have := hnl x hx; omega))) rfl rfl rfl rfl rfl) ?_
    refine dcons (CStep.guard rfl rfl rfl (fun hg0 => PStep.c (p_fieldRef rfl wCd10_fld46_3 wCd10_siz33 rfl (Sees.of rfl) rfl)) rfl rfl rfl rfl rfl) ?_
    refine dcons (CStep.guard rfl rfl rfl (fun hg0 => PStep.c (p_loadB (y := .val _) rfl wCd10_agg33 (Sees.gv' rfl hg0) rfl rfl rfl rfl)) rfl rfl rfl rfl rfl) ?_
    refine dcons (CStep.guard rfl rfl rfl (fun hg0 => by have hp0 := hg0; (try simp only [bs] at hp0); exact c_call rfl wCd10_isf74 ⟨_, _, rfl, (Sees.gv' rfl hg0), rfl, rfl⟩ (negsR_spec A.2.2.2.1 (fun x hx => by have := hf.ga x (h.sub x hx); omega) (by omega))) rfl rfl rfl rfl rfl) ?_
    refine dcons (CStep.guard rfl rfl rfl (fun hg0 => by have hp0 := hg0; (try simp only [bs] at hp0); exact c_call rfl wCd10_isf73 ⟨_, _, rfl, (Sees.gv' rfl hg0), rfl, rfl⟩ (sortedR_spec (Sp.negL A.2.2.2.1) (by omega) (fun x hx => by have := hnl x hx; omega))) rfl rfl rfl rfl rfl) ?_
    refine dcons (CStep.guard rfl rfl rfl (fun hg0 => c_call rfl wCd10_isf72 ⟨_, _, rfl, (Sees.gv' rfl hg0), rfl, ⟨_, _, rfl, (Sees.gv' rfl hg0), rfl, rfl⟩⟩ (sameN_spec _ _)) rfl rfl rfl rfl rfl) ?_
    refine dcons (CStep.guard rfl rfl rfl (fun hg0 => PStep.c (p_not rfl (Sees.gv' rfl hg0))) rfl rfl rfl rfl rfl) ?_
    refine dcons (CStep.step (PStep.c (p_or rfl (Sees.of rfl) (Sees.of rfl) (fun h => Sees.gv' rfl (beq_of_eq h)))) rfl rfl rfl rfl) ?_
    refine dnil (by kernel_rfl) ?_
    refine f_cond rfl ?_ ?_
    · intro hc2
      try simp only [bs] at hc2
      exfalso
      simp at hc2
    · intro hc2
      try simp only [bs] at hc2
      refine f_skip ?_
      refine f_seq ?_
      refine f_region ?_
      refine scons (CStep.step (PStep.c (p_loadBS rfl wCd10_agg39 wCd10_siz39 (Sees.of rfl) rfl rfl rfl)) rfl rfl rfl rfl) ?_
      refine scons (CStep.step (PStep.c (p_loadBS rfl wCd10_agg46 wCd10_siz46 (Sees.of rfl) rfl rfl rfl)) rfl rfl rfl rfl) ?_
      refine scons (CStep.step (c_call rfl wCd10_isf75 ⟨_, _, rfl, (Sees.of rfl), rfl, ⟨_, _, rfl, (Sees.of rfl), rfl, rfl⟩⟩ (closed_spec m ls A (by omega) (by omega) (by omega))) rfl rfl rfl rfl) ?_
      refine scons (CStep.step (PStep.c (p_move (y := .val _) rfl (Sees.of rfl) rfl)) rfl rfl rfl rfl) ?_
      refine scons (CStep.step (PStep.c (p_extract rfl (Sees.of rfl) rfl)) rfl rfl rfl rfl) ?_
      refine scons (CStep.step (PStep.c (p_extract rfl (Sees.of rfl) rfl)) rfl rfl rfl rfl) ?_
      refine scons (r_alloc (ob := 10008) rfl wCd10_zer39 rfl rfl rfl rfl rfl rfl) ?_
      refine scons (r_storeS rfl wCd10_siz39 rfl rfl rfl (Sees.of rfl) rfl (Sees.of rfl) rfl rfl rfl rfl) ?_
      refine scons (CStep.step (PStep.c (p_assign (y := .val _) rfl (Sees.of rfl) rfl)) rfl rfl rfl rfl) ?_
      refine snil ?_
      refine f_seq ?_
      refine f_region ?_
      refine scons (CStep.step (PStep.c (p_loadBS rfl wCd10_agg39 wCd10_siz39 (Sees.of rfl) rfl rfl rfl)) rfl rfl rfl rfl) ?_
      refine scons (CStep.step (PStep.c (p_move (y := .val _) rfl (Sees.of rfl) rfl)) rfl rfl rfl rfl) ?_
      refine scons (CStep.step (c_call rfl wCd10_isf76 ⟨_, _, rfl, (Sees.of rfl), rfl, ⟨_, _, rfl, (Sees.of rfl), rfl, rfl⟩⟩ (stepsWrong_spec m (ls ++ Sp.ones A.2.2.2.1) (A.2.2.1 ++ [[]]) hct)) rfl rfl rfl rfl) ?_
      refine scons (CStep.step (PStep.c (p_field rfl wCd10_fld26_0 wCd10_agg3 (Sees.of rfl) rfl)) rfl rfl rfl rfl) ?_
      refine scons (CStep.step (PStep.c (p_eql rfl (Sees.of rfl) (Sees.of rfl))) rfl rfl rfl rfl) ?_
      refine scons (CStep.step (PStep.c (p_move (y := .val _) rfl (Sees.of rfl) rfl)) rfl rfl rfl rfl) ?_
      refine scons (CStep.guard rfl rfl rfl (fun hg0 => PStep.c (p_loadBS rfl wCd10_agg39 wCd10_siz39 (Sees.of rfl) rfl rfl rfl)) rfl rfl rfl rfl rfl) ?_
      refine scons (CStep.guard rfl rfl rfl (fun hg0 => PStep.c (p_move (y := .val _) rfl (Sees.of rfl) rfl)) rfl rfl rfl rfl rfl) ?_
      refine scons (CStep.guard rfl rfl rfl (fun hg0 => c_call rfl wCd10_isf77 ⟨_, _, rfl, (Sees.gv' rfl hg0), rfl, ⟨_, _, rfl, (Sees.gv' rfl hg0), rfl, rfl⟩⟩ (refused_spec m (ls ++ Sp.ones A.2.2.2.1) (A.2.2.1 ++ [[]]) hct (List.mem_append_right _ (List.mem_append_right _ (List.mem_singleton.2 rfl))))) rfl rfl rfl rfl rfl) ?_
      refine scons (CStep.guard rfl rfl rfl (fun hg0 => PStep.c (p_eql rfl (Sees.gv' rfl hg0) (Sees.of rfl))) rfl rfl rfl rfl rfl) ?_
      refine scons (CStep.step (PStep.c (p_and rfl (Sees.of rfl) (fun h => Sees.gv' rfl (beq_of_eq h)) (Sees.of rfl))) rfl rfl rfl rfl) ?_
      refine scons (CStep.step (PStep.c (p_assign (y := .val _) rfl (Sees.of rfl) rfl)) rfl rfl rfl rfl) ?_
      refine snil ?_
      refine f_ret ?_
      refine ends_ret (res_eq (res1 rfl (res_tmp rfl (Sees.of rfl))) ?_)
      rfl

theorem CdclAnswers_spec (n : Int) (ls : List (List Int)) (asked : List Int) (a b c d fuel : Int) :
    Spec Go.Proofs.Try.prog 5 [.val (cnf n ls), .val (ints asked), .val (opts a b c d), iv fuel] (D.bool true) := by
  refine spec_of' Go.Proofs.Try.func5 rfl Go.Proofs.Try.ntmps5 rfl ?_
  refine f_seq ?_
  refine f_region ?_
  refine scons (r_box (ob := 10004) rfl (Sees.of rfl) rfl rfl rfl rfl rfl rfl) ?_
  refine scons (r_box (ob := 10006) rfl (Sees.of rfl) rfl rfl rfl rfl rfl rfl) ?_
  refine scons (CStep.step (PStep.c (p_assign (y := .val _) rfl (Sees.of rfl) rfl)) rfl rfl rfl rfl) ?_
  refine snil ?_
  refine f_seq ?_
  refine f_seq ?_
  refine f_region ?_
  refine scons (CStep.step (PStep.c (p_loadBS rfl wCd10_agg39 wCd10_siz39 (Sees.of rfl) rfl rfl rfl)) rfl rfl rfl rfl) ?_
  refine scons (CStep.step (c_call rfl wCd10_isf23 ⟨_, _, rfl, (Sees.of rfl), rfl, rfl⟩ (heavy_spec n ls)) rfl rfl rfl rfl) ?_
  refine scons (CStep.step (PStep.c (p_move (y := .val _) rfl (Sees.of rfl) rfl)) rfl rfl rfl rfl) ?_
  refine scons (CStep.guard rfl rfl rfl (fun hg0 => PStep.c (p_loadBS rfl wCd10_agg39 wCd10_siz39 (Sees.of rfl) rfl rfl rfl)) rfl rfl rfl rfl rfl) ?_
  refine scons (CStep.guard rfl rfl rfl (fun hg0 => PStep.c (p_move (y := .val _) rfl (Sees.of rfl) rfl)) rfl rfl rfl rfl rfl) ?_
  refine scons (CStep.guard rfl rfl rfl (fun hg0 => PStep.c (p_loadBS rfl wCd10_agg41 wCd10_siz41 (Sees.of rfl) rfl rfl rfl)) rfl rfl rfl rfl rfl) ?_
  refine scons (CStep.guard rfl rfl rfl (fun hg0 => PStep.c (p_move (y := .val _) rfl (Sees.of rfl) rfl)) rfl rfl rfl rfl rfl) ?_
  refine scons (CStep.guard rfl rfl rfl (fun hg0 => c_call rfl wCd10_isf19 ⟨_, _, rfl, (Sees.gv' rfl hg0), rfl, ⟨_, _, rfl, (Sees.gv' rfl hg0), rfl, ⟨_, _, rfl, (Sees.gv' rfl hg0), rfl, ⟨_, _, rfl, (Sees.gv' rfl hg0), rfl, rfl⟩⟩⟩⟩ (cdclFault_spec n ls asked a b c d fuel)) rfl rfl rfl rfl rfl) ?_
  refine scons (CStep.guard rfl rfl rfl (fun hg0 => PStep.c (p_field rfl wCd10_fld26_0 wCd10_agg3 (Sees.gv' rfl hg0) rfl)) rfl rfl rfl rfl rfl) ?_
  refine scons (CStep.guard rfl rfl rfl (fun hg0 => PStep.c (p_neq rfl (Sees.gv' rfl hg0) (Sees.of rfl))) rfl rfl rfl rfl rfl) ?_
  refine scons (CStep.step (PStep.c (p_or rfl (Sees.of rfl) (Sees.of rfl) (fun h => Sees.gv' rfl (beq_of_eq h)))) rfl rfl rfl rfl) ?_
  refine snil ?_
  refine f_cond rfl ?_ ?_
  · intro hc1
    try simp only [bs] at hc1
    refine f_seq ?_
    refine f_region ?_
    refine scons (CStep.step (PStep.c (p_assign (y := .val _) rfl (Sees.of rfl) rfl)) rfl rfl rfl rfl) ?_
    refine snil ?_
    refine f_ret ?_
    refine ends_ret (res_eq (res1 rfl (res_tmp rfl (Sees.of rfl))) ?_)
    rfl
  · intro hc1
    try simp only [bs] at hc1
    obtain ⟨m, rfl, hfit, hbe, hopt⟩ := Sp.cdF_ok hc1.2
    have hgo := Sp.doOf_go hbe hopt
    have hfu := (Sp.opt_fuel hopt).1
    have hok := Sp.do_ok (ph := decide (d = 1)) hfit hfu
    have hck := Sp.check_of_beside hbe
    rw [show Sp.doA m ls asked (decide (d = 1)) fuel = (Sp.doOf m ls asked a b c d fuel).1 by rw [hgo]] at hok
    have hg2 : (Sp.doOf m ls asked a b c d fuel).2.1 = 0 := by rw [hgo]
    refine f_skip ?_
    refine f_seq ?_
    refine f_region ?_
    refine scons (CStep.step (PStep.c (p_loadBS rfl wCd10_agg39 wCd10_siz39 (Sees.of rfl) rfl rfl rfl)) rfl rfl rfl rfl) ?_
    refine scons (CStep.step (PStep.c (p_move (y := .val _) rfl (Sees.of rfl) rfl)) rfl rfl rfl rfl) ?_
    refine scons (CStep.step (PStep.c (p_loadBS rfl wCd10_agg41 wCd10_siz41 (Sees.of rfl) rfl rfl rfl)) rfl rfl rfl rfl) ?_
    refine scons (CStep.step (PStep.c (p_move (y := .val _) rfl (Sees.of rfl) rfl)) rfl rfl rfl rfl) ?_
    refine scons (CStep.step (c_call rfl wCd10_isf21 ⟨_, _, rfl, (Sees.of rfl), rfl, ⟨_, _, rfl, (Sees.of rfl), rfl, ⟨_, _, rfl, (Sees.of rfl), rfl, ⟨_, _, rfl, (Sees.of rfl), rfl, rfl⟩⟩⟩⟩ (Do_spec m ls asked a b c d fuel)) rfl rfl rfl rfl) ?_
    refine scons (CStep.step (PStep.c (p_move (y := .val _) rfl (Sees.of rfl) rfl)) rfl rfl rfl rfl) ?_
    refine scons (CStep.step (PStep.c (p_extract rfl (Sees.of rfl) rfl)) rfl rfl rfl rfl) ?_
    refine scons (CStep.step (PStep.c (p_extract rfl (Sees.of rfl) rfl)) rfl rfl rfl rfl) ?_
    refine scons (r_alloc (ob := 10009) rfl wCd10_zer46 rfl rfl rfl rfl rfl rfl) ?_
    refine scons (r_alloc (ob := 10010) rfl wCd10_zer26 rfl rfl rfl rfl rfl rfl) ?_
    refine scons (r_storeS rfl wCd10_siz46 rfl rfl rfl (Sees.of rfl) rfl (Sees.of rfl) rfl rfl rfl rfl) ?_
    refine scons (r_storeS rfl wCd10_siz26 rfl rfl rfl (Sees.of rfl) rfl (Sees.of rfl) rfl rfl rfl rfl) ?_
    refine snil ?_
    refine f_seq ?_
    refine f_seq ?_
    refine f_region ?_
    refine scons (CStep.step (PStep.c (p_fieldRef rfl wCd10_fld26_0 wCd10_siz3 rfl (Sees.of rfl) rfl)) rfl rfl rfl rfl) ?_
    refine scons (CStep.step (PStep.c (p_loadB (y := .val _) rfl wCd10_agg3 (Sees.of rfl) rfl rfl rfl rfl)) rfl rfl rfl rfl) ?_
    refine scons (CStep.step (PStep.c (p_neq rfl (Sees.of rfl) (Sees.of rfl))) rfl rfl rfl rfl) ?_
    refine scons (CStep.step (PStep.c (p_move (y := .val _) rfl (Sees.of rfl) rfl)) rfl rfl rfl rfl) ?_
    refine scons (CStep.guard rfl rfl rfl (fun hg0 => c_call rfl wCd10_isf20 rfl (sure_spec)) rfl rfl rfl rfl rfl) ?_
    refine scons (CStep.guard rfl rfl rfl (fun hg0 => PStep.c (p_not rfl (Sees.gv' rfl hg0))) rfl rfl rfl rfl rfl) ?_
    refine scons (CStep.step (PStep.c (p_or rfl (Sees.of rfl) (Sees.of rfl) (fun h => Sees.gv' rfl (beq_of_eq h)))) rfl rfl rfl rfl) ?_
    refine scons (CStep.step (PStep.c (p_move (y := .val _) rfl (Sees.of rfl) rfl)) rfl rfl rfl rfl) ?_
    refine scons (CStep.guard rfl rfl rfl (fun hg0 => PStep.c (p_fieldRef rfl wCd10_fld46_4 wCd10_siz3 rfl (Sees.of rfl) rfl)) rfl rfl rfl rfl rfl) ?_
    refine scons (CStep.guard rfl rfl rfl (fun hg0 => PStep.c (p_loadB (y := .val _) rfl wCd10_agg3 (Sees.gv' rfl hg0) rfl rfl rfl rfl)) rfl rfl rfl rfl rfl) ?_
    refine scons (CStep.guard rfl rfl rfl (fun hg0 => PStep.c (p_lss rfl (Sees.gv' rfl hg0) (Sees.of rfl))) rfl rfl rfl rfl rfl) ?_
    refine scons (CStep.step (PStep.c (p_or rfl (Sees.of rfl) (Sees.of rfl) (fun h => Sees.gv' rfl (beq_of_eq h)))) rfl rfl rfl rfl) ?_
    refine scons (CStep.step (PStep.c (p_move (y := .val _) rfl (Sees.of rfl) rfl)) rfl rfl rfl rfl) ?_
    refine scons (CStep.guard rfl rfl rfl (fun hg0 => PStep.c (p_fieldRef rfl wCd10_fld46_4 wCd10_siz3 rfl (Sees.of rfl) rfl)) rfl rfl rfl rfl rfl) ?_
    refine scons (CStep.guard rfl rfl rfl (fun hg0 => PStep.c (p_loadB (y := .val _) rfl wCd10_agg3 (Sees.gv' rfl hg0) rfl rfl rfl rfl)) rfl rfl rfl rfl rfl) ?_
    refine scons (CStep.guard rfl rfl rfl (fun hg0 => PStep.c (p_move (y := .val _) rfl (Sees.of rfl) rfl)) rfl rfl rfl rfl rfl) ?_
    refine scons (CStep.guard rfl rfl rfl (fun hg0 => PStep.c (p_gtr rfl (Sees.gv' rfl hg0) (Sees.gv' rfl hg0))) rfl rfl rfl rfl rfl) ?_
    refine scons (CStep.step (PStep.c (p_or rfl (Sees.of rfl) (Sees.of rfl) (fun h => Sees.gv' rfl (beq_of_eq h)))) rfl rfl rfl rfl) ?_
    refine snil ?_
    refine f_cond rfl ?_ ?_
    · intro hc2
      try simp only [bs] at hc2
      exfalso
      have h1 := hok.2
      rw [hg2] at hc2
      simp at hc2
      omega
    · intro hc2
      try simp only [bs] at hc2
      refine f_skip ?_
      refine f_seq ?_
      refine f_seq ?_
      refine f_region ?_
      refine scons (CStep.step (PStep.c (p_fieldRef rfl wCd10_fld46_0 wCd10_siz3 rfl (Sees.of rfl) rfl)) rfl rfl rfl rfl) ?_
      refine scons (CStep.step (PStep.c (p_loadB (y := .val _) rfl wCd10_agg3 (Sees.of rfl) rfl rfl rfl rfl)) rfl rfl rfl rfl) ?_
      refine snil ?_
      refine f_block ?_
      refine f_seq ?_
      refine f_region ?_
      refine scons (CStep.step (PStep.c (p_eql rfl (Sees.of rfl) (Sees.of rfl))) rfl rfl rfl rfl) ?_
      refine scons (CStep.step (PStep.c (p_assign (y := .val _) rfl (Sees.of rfl) rfl)) rfl rfl rfl rfl) ?_
      refine snil ?_
      refine f_cond rfl ?_ ?_
      · intro hc3
        try simp only [bs] at hc3
        refine f_seq ?_
        refine f_region ?_
        refine scons (CStep.step (PStep.c (p_loadBS rfl wCd10_agg39 wCd10_siz39 (Sees.of rfl) rfl rfl rfl)) rfl rfl rfl rfl) ?_
        refine scons (CStep.step (PStep.c (p_move (y := .val _) rfl (Sees.of rfl) rfl)) rfl rfl rfl rfl) ?_
        refine scons (CStep.step (PStep.c (p_loadBS rfl wCd10_agg46 wCd10_siz46 (Sees.of rfl) rfl rfl rfl)) rfl rfl rfl rfl) ?_
        refine scons (CStep.step (c_call rfl wCd10_isf24 ⟨_, _, rfl, (Sees.of rfl), rfl, ⟨_, _, rfl, (Sees.of rfl), rfl, ⟨_, _, rfl, (Sees.of rfl), rfl, rfl⟩⟩⟩ (yes_spec m ls asked (Sp.doOf m ls asked a b c d fuel).1 hfit (hok.1.resolve_right (fun h => h.elim (fun h => by rw [h.st] at hc3; cases hc3) (fun h => by rw [h.st] at hc3; cases hc3))))) rfl rfl rfl rfl) ?_
        refine scons (CStep.step (PStep.c (p_assign (y := .val _) rfl (Sees.of rfl) rfl)) rfl rfl rfl rfl) ?_
        refine snil ?_
        refine f_ret ?_
        refine ends_ret (res_eq (res1 rfl (res_tmp rfl (Sees.of rfl))) ?_)
        rfl
      · intro hc3
        try simp only [bs] at hc3
        refine f_seq ?_
        refine f_region ?_
        refine scons (CStep.step (PStep.c (p_eql rfl (Sees.of rfl) (Sees.of rfl))) rfl rfl rfl rfl) ?_
        refine scons (CStep.step (PStep.c (p_assign (y := .val _) rfl (Sees.of rfl) rfl)) rfl rfl rfl rfl) ?_
        refine snil ?_
        refine f_cond rfl ?_ ?_
        · intro hc4
          try simp only [bs] at hc4
          refine f_seq ?_
          refine f_region ?_
          refine scons (CStep.step (PStep.c (p_loadBS rfl wCd10_agg39 wCd10_siz39 (Sees.of rfl) rfl rfl rfl)) rfl rfl rfl rfl) ?_
          refine scons (CStep.step (PStep.c (p_move (y := .val _) rfl (Sees.of rfl) rfl)) rfl rfl rfl rfl) ?_
          refine scons (CStep.step (PStep.c (p_loadBS rfl wCd10_agg46 wCd10_siz46 (Sees.of rfl) rfl rfl rfl)) rfl rfl rfl rfl) ?_
          refine scons (CStep.step (c_call rfl wCd10_isf25 ⟨_, _, rfl, (Sees.of rfl), rfl, ⟨_, _, rfl, (Sees.of rfl), rfl, ⟨_, _, rfl, (Sees.of rfl), rfl, rfl⟩⟩⟩ (noL_spec m ls asked (Sp.doOf m ls asked a b c d fuel).1 fuel hfit hck (by omega) (by omega) (hok.1.elim (fun h => by rw [h.st] at hc4; cases hc4) (fun h => h.resolve_right (fun h => by rw [h.st] at hc4; cases hc4))) hok.2.2 hfu.2)) rfl rfl rfl rfl) ?_
          refine scons (CStep.step (PStep.c (p_assign (y := .val _) rfl (Sees.of rfl) rfl)) rfl rfl rfl rfl) ?_
          refine snil ?_
          refine f_ret ?_
          refine ends_ret (res_eq (res1 rfl (res_tmp rfl (Sees.of rfl))) ?_)
          rfl
        · intro hc4
          try simp only [bs] at hc4
          refine f_skip ?_
          refine f_nil ?_
          show AWs _ _ _ _ _
          refine f_seq ?_
          refine f_region ?_
          refine scons (CStep.step (PStep.c (p_fieldRef rfl wCd10_fld46_0 wCd10_siz3 rfl (Sees.of rfl) rfl)) rfl rfl rfl rfl) ?_
          refine scons (CStep.step (PStep.c (p_loadB (y := .val _) rfl wCd10_agg3 (Sees.of rfl) rfl rfl rfl rfl)) rfl rfl rfl rfl) ?_
          refine scons (CStep.step (PStep.c (p_eql rfl (Sees.of rfl) (Sees.of rfl))) rfl rfl rfl rfl) ?_
          refine scons (CStep.step (PStep.c (p_move (y := .val _) rfl (Sees.of rfl) rfl)) rfl rfl rfl rfl) ?_
          refine scons (CStep.guard rfl rfl rfl (fun hg0 => PStep.c (p_fieldRef rfl wCd10_fld46_4 wCd10_siz3 rfl (Sees.of rfl) rfl)) rfl rfl rfl rfl rfl) ?_
          refine scons (CStep.guard rfl rfl rfl (fun hg0 => PStep.c (p_loadB (y := .val _) rfl wCd10_agg3 (Sees.gv' rfl hg0) rfl rfl rfl rfl)) rfl rfl rfl rfl rfl) ?_
          refine scons (CStep.guard rfl rfl rfl (fun hg0 => PStep.c (p_move (y := .val _) rfl (Sees.of rfl) rfl)) rfl rfl rfl rfl rfl) ?_
          refine scons (CStep.guard rfl rfl rfl (fun hg0 => PStep.c (p_eql rfl (Sees.gv' rfl hg0) (Sees.gv' rfl hg0))) rfl rfl rfl rfl rfl) ?_
          refine scons (CStep.step (PStep.c (p_and rfl (Sees.of rfl) (fun h => Sees.gv' rfl (beq_of_eq h)) (Sees.of rfl))) rfl rfl rfl rfl) ?_
          refine scons (CStep.step (PStep.c (p_move (y := .val _) rfl (Sees.of rfl) rfl)) rfl rfl rfl rfl) ?_
          refine scons (CStep.guard rfl rfl rfl (fun hg0 => PStep.c (p_loadBS rfl wCd10_agg46 wCd10_siz46 (Sees.of rfl) rfl rfl rfl)) rfl rfl rfl rfl rfl) ?_
          refine scons (CStep.guard rfl rfl rfl (fun hg0 => c_call rfl wCd10_isf22 ⟨_, _, rfl, (Sees.gv' rfl hg0), rfl, rfl⟩ (plain_spec _ _ _ _ _)) rfl rfl rfl rfl rfl) ?_
          refine scons (CStep.step (PStep.c (p_and rfl (Sees.of rfl) (fun h => Sees.gv' rfl (beq_of_eq h)) (Sees.of rfl))) rfl rfl rfl rfl) ?_
          refine scons (CStep.step (PStep.c (p_assign (y := .val _) rfl (Sees.of rfl) rfl)) rfl rfl rfl rfl) ?_
          refine snil ?_
          refine f_ret ?_
          refine ends_ret (res_eq (res1 rfl (res_tmp rfl (Sees.of rfl))) ?_)
          have hh := (hok.1.resolve_left (fun h => hc3 h.st)).resolve_left (fun h => hc4 h.st)
          rw [hh.st, hh.us, hh.no.1, hh.no.2.1, hh.no.2.2]
          simp

end Go.Um
