/- Walks of Go functions of this seat, each by its contract. No condition beyond what each theorem says. -/
import Derived.Test.YtfjafkocejoigaaGreatWTop1
import Derived.Test.YtfjafkocejoigaaGreatWNorm
import Derived.Test.YtfjafkocejoigaaGreatWBet2
import Derived.Test.YtfjafkocejoigaaGreatTp4
import Derived.Test.YtfjafkocejoigaaGreatWSat
import Derived.Test.YtfjafkocejoigaaGreatProg
import Derived.KernelRfl
set_option maxRecDepth 4000
namespace Go.Um
open Go Go.RowKit

theorem wTop2_agg22 : IsAgg Go.Proofs.Tryz.prog 22 false := by unfold IsAgg; kernel_rfl
theorem wTop2_agg23 : IsAgg Go.Proofs.Tryz.prog 23 false := by unfold IsAgg; kernel_rfl
theorem wTop2_agg25 : IsAgg Go.Proofs.Tryz.prog 25 true := by unfold IsAgg; kernel_rfl
theorem wTop2_agg29 : IsAgg Go.Proofs.Tryz.prog 29 true := by unfold IsAgg; kernel_rfl
theorem wTop2_agg3 : IsAgg Go.Proofs.Tryz.prog 3 false := by unfold IsAgg; kernel_rfl
theorem wTop2_agg33 : IsAgg Go.Proofs.Tryz.prog 33 false := by unfold IsAgg; kernel_rfl
theorem wTop2_boo4 : IsBool Go.Proofs.Tryz.prog 4 := by unfold IsBool; kernel_rfl
theorem wTop2_byt22 : Bytes Go.Proofs.Tryz.prog 22 24 := by unfold Bytes; kernel_rfl
theorem wTop2_byt23 : Bytes Go.Proofs.Tryz.prog 23 24 := by unfold Bytes; kernel_rfl
theorem wTop2_byt3 : Bytes Go.Proofs.Tryz.prog 3 8 := by unfold Bytes; kernel_rfl
theorem wTop2_fld25_0 : IsField Go.Proofs.Tryz.prog 25 0 0 3 := by unfold IsField; kernel_rfl
theorem wTop2_fld25_1 : IsField Go.Proofs.Tryz.prog 25 1 1 23 := by unfold IsField; kernel_rfl
theorem wTop2_fld29_0 : IsField Go.Proofs.Tryz.prog 29 0 0 3 := by unfold IsField; kernel_rfl
theorem wTop2_fld36_0 : IsField Go.Proofs.Tryz.prog 36 0 0 3 := by unfold IsField; kernel_rfl
theorem wTop2_fld36_1 : IsField Go.Proofs.Tryz.prog 36 1 1 33 := by unfold IsField; kernel_rfl
theorem wTop2_isf10 : IsFn Go.Proofs.Tryz.prog 10 := by unfold IsFn; kernel_rfl
theorem wTop2_isf102 : IsFn Go.Proofs.Tryz.prog 102 := by unfold IsFn; kernel_rfl
theorem wTop2_isf11 : IsFn Go.Proofs.Tryz.prog 11 := by unfold IsFn; kernel_rfl
theorem wTop2_isf12 : IsFn Go.Proofs.Tryz.prog 12 := by unfold IsFn; kernel_rfl
theorem wTop2_isf13 : IsFn Go.Proofs.Tryz.prog 13 := by unfold IsFn; kernel_rfl
theorem wTop2_isf14 : IsFn Go.Proofs.Tryz.prog 14 := by unfold IsFn; kernel_rfl
theorem wTop2_isf15 : IsFn Go.Proofs.Tryz.prog 15 := by unfold IsFn; kernel_rfl
theorem wTop2_isf31 : IsFn Go.Proofs.Tryz.prog 31 := by unfold IsFn; kernel_rfl
theorem wTop2_isf32 : IsFn Go.Proofs.Tryz.prog 32 := by unfold IsFn; kernel_rfl
theorem wTop2_isf33 : IsFn Go.Proofs.Tryz.prog 33 := by unfold IsFn; kernel_rfl
theorem wTop2_isf44 : IsFn Go.Proofs.Tryz.prog 44 := by unfold IsFn; kernel_rfl
theorem wTop2_isf45 : IsFn Go.Proofs.Tryz.prog 45 := by unfold IsFn; kernel_rfl
theorem wTop2_isf56 : IsFn Go.Proofs.Tryz.prog 56 := by unfold IsFn; kernel_rfl
theorem wTop2_isf7 : IsFn Go.Proofs.Tryz.prog 7 := by unfold IsFn; kernel_rfl
theorem wTop2_isf70 : IsFn Go.Proofs.Tryz.prog 70 := by unfold IsFn; kernel_rfl
theorem wTop2_isf71 : IsFn Go.Proofs.Tryz.prog 71 := by unfold IsFn; kernel_rfl
theorem wTop2_isf72 : IsFn Go.Proofs.Tryz.prog 72 := by unfold IsFn; kernel_rfl
theorem wTop2_isf8 : IsFn Go.Proofs.Tryz.prog 8 := by unfold IsFn; kernel_rfl
theorem wTop2_isf81 : IsFn Go.Proofs.Tryz.prog 81 := by unfold IsFn; kernel_rfl
theorem wTop2_isf9 : IsFn Go.Proofs.Tryz.prog 9 := by unfold IsFn; kernel_rfl
theorem wTop2_isl22 : IsSlice Go.Proofs.Tryz.prog 22 3 := by unfold IsSlice; kernel_rfl
theorem wTop2_isl23 : IsSlice Go.Proofs.Tryz.prog 23 22 := by unfold IsSlice; kernel_rfl
theorem wTop2_isl33 : IsSlice Go.Proofs.Tryz.prog 33 4 := by unfold IsSlice; kernel_rfl
theorem wTop2_isl84 : IsSlice Go.Proofs.Tryz.prog 84 23 := by unfold IsSlice; kernel_rfl
theorem wTop2_mix : (Go.Proofs.Tryz.prog).follows .mixedOrders = true := by kernel_rfl
theorem wTop2_plc25 : Places Go.Proofs.Tryz.prog 25 [(0, 1), (1, 1)] := by unfold Places; kernel_rfl
theorem wTop2_plc29 : Places Go.Proofs.Tryz.prog 29 [(0, 1), (1, 1)] := by unfold Places; kernel_rfl
theorem wTop2_siz22 : Size Go.Proofs.Tryz.prog 22 1 := by unfold Size; kernel_rfl
theorem wTop2_siz23 : Size Go.Proofs.Tryz.prog 23 1 := by unfold Size; kernel_rfl
theorem wTop2_siz25 : Size Go.Proofs.Tryz.prog 25 2 := by unfold Size; kernel_rfl
theorem wTop2_siz29 : Size Go.Proofs.Tryz.prog 29 2 := by unfold Size; kernel_rfl
theorem wTop2_siz3 : Size Go.Proofs.Tryz.prog 3 1 := by unfold Size; kernel_rfl
theorem wTop2_siz33 : Size Go.Proofs.Tryz.prog 33 1 := by unfold Size; kernel_rfl
theorem wTop2_siz36 : Size Go.Proofs.Tryz.prog 36 5 := by unfold Size; kernel_rfl
theorem wTop2_siz4 : Size Go.Proofs.Tryz.prog 4 1 := by unfold Size; kernel_rfl
def wTop2_z25 : D := .cons (.int .i64 0) (.cons (intss []) (.nil))
theorem wTop2_zch25 : ∀ (ok : Nat → Prop) (w : World), R Go.Proofs.Tryz.prog wTop2_z25 ok w (Value.cells (.agg #[(.int .i64 0), (.slice none 0 0)])).toList := fun _ _ => z_int (z_list (z_nil))
def wTop2_z29 : D := .cons (.int .i64 0) (.cons (.int .i64 0) (.nil))
theorem wTop2_zch29 : ∀ (ok : Nat → Prop) (w : World), R Go.Proofs.Tryz.prog wTop2_z29 ok w (Value.cells (.agg #[(.int .i64 0), (.int .i64 0)])).toList := fun _ _ => z_int (z_int (z_nil))
theorem wTop2_zer22 : Zero Go.Proofs.Tryz.prog 22 (.slice none 0 0) := by unfold Zero; kernel_rfl
theorem wTop2_zer23 : Zero Go.Proofs.Tryz.prog 23 (.slice none 0 0) := by unfold Zero; kernel_rfl
theorem wTop2_zer25 : Zero Go.Proofs.Tryz.prog 25 (.agg #[(.int .i64 0), (.slice none 0 0)]) := by unfold Zero; kernel_rfl
theorem wTop2_zer29 : Zero Go.Proofs.Tryz.prog 29 (.agg #[(.int .i64 0), (.int .i64 0)]) := by unfold Zero; kernel_rfl
theorem wTop2_zer3 : Zero Go.Proofs.Tryz.prog 3 (.int .i64 0) := by unfold Zero; kernel_rfl
theorem wTop2_zer36 : Zero Go.Proofs.Tryz.prog 36 (.agg #[(.int .i64 0), (.slice none 0 0), (.slice none 0 0), (.slice none 0 0), (.int .i64 0)]) := by unfold Zero; kernel_rfl

set_option maxHeartbeats 1000000 in
theorem without_spec (l : List (List Int)) (v : Int) (n : Nat) (hl : l.length ≤ 400) (hn : n ≤ 120) (hok : ∀ c ∈ l, Sp.Okc n c) (hv : 1 ≤ v ∧ v ≤ (n : Int)) :
    Spec Go.Proofs.Tryz.prog 71 [.val (intss l), iv v] (intss (Sp.elim1 l v)) := by
  refine spec_of' Go.Proofs.Tryz.func71 rfl Go.Proofs.Tryz.ntmps71 rfl ?_
  refine f_seq ?_
  refine f_region ?_
  refine scons (CStep.step (PStep.c (p_assign (y := .emp) rfl (Sees.of rfl) rfl)) rfl rfl rfl rfl) ?_
  refine snil ?_
  refine f_seq ?_
  refine f_region ?_
  refine scons (CStep.step (PStep.c (p_assign (y := .emp) rfl (Sees.of rfl) rfl)) rfl rfl rfl rfl) ?_
  refine scons (CStep.step (PStep.c (p_assign (y := .emp) rfl (Sees.of rfl) rfl)) rfl rfl rfl rfl) ?_
  refine scons (CStep.step (PStep.c (p_assign (y := .emp) rfl (Sees.of rfl) rfl)) rfl rfl rfl rfl) ?_
  refine snil ?_
  refine f_seq ?_
  refine f_seq ?_
  refine f_region ?_
  refine scons (CStep.step (PStep.c (p_move (y := .val _) rfl (Sees.of rfl) rfl)) rfl rfl rfl rfl) ?_
  refine scons (CStep.step (PStep.c (p_len rfl wTop2_isl23 (Sees.of rfl))) rfl rfl rfl rfl) ?_
  refine scons (CStep.step (PStep.c (p_move (y := .val _) rfl (Sees.of rfl) rfl)) rfl rfl rfl rfl) ?_
  refine snil ?_
  refine f_block ?_
  refine f_loop (α := Nat × Nat × Nat × Nat) (fun (i, x, y, z) => i ≤ l.length) (fun (i, x, y, z) => [(18, iv i), (16, .val (intss l)), (17, iv l.length), (1, iv v), (5, .row 30000 x), (6, .row 30001 y), (7, .row 30002 z), (30000, .arr x 22 1 24 ints [] (Sp.elR (l.take i) v)), (30001, .arr y 22 1 24 ints [] (Sp.elW (l.take i) v)), (30002, .arr z 22 1 24 ints [] (Sp.elN (l.take i) v)), (4, .emp)]) (fun (i, x, y, z) => l.length - i) (0, 0, 0, 0) ?_ ?_ ?_
  · exact Nat.zero_le _
  · exact Le.trans (GLe.le (g_adopt (ob := 30000) (k := 5) 22 1 24 ints [] rfl rfl rfl rfl)) (Le.trans (GLe.le (g_adopt (ob := 30001) (k := 6) 22 1 24 ints [] rfl rfl rfl rfl)) (Le.trans (GLe.le (g_adopt (ob := 30002) (k := 7) 22 1 24 ints [] rfl rfl rfl rfl)) (le_ofL ⟨rfl, rfl, rfl, rfl, rfl, rfl, rfl, rfl, rfl, rfl, rfl, trivial⟩ rfl)))
  · rintro ⟨i, x, y, z⟩ hi
    have hi : i ≤ l.length := hi
    refine f_seq ?_
    refine f_region ?_
    refine scons (CStep.step (PStep.c (p_lss rfl (Sees.of rfl) (Sees.of rfl))) rfl rfl rfl rfl) ?_
    refine snil ?_
    refine f_seq ?_
    refine f_cond rfl ?_ ?_
    · intro hc1
      try simp only [bs] at hc1
      have hwl := Sp.elW_len (l := l) (v := v) (i := i)
      have hnl := Sp.elN_len (l := l) (v := v) (i := i)
      have hrl := Sp.elR_len (l := l) (v := v) (i := i)
      refine f_skip ?_
      refine f_seq ?_
      refine f_block ?_
      refine f_seq ?_
      refine f_region ?_
      refine scons (CStep.step (PStep.c ((by first | exact p_indexN rfl wTop2_isl23 wTop2_siz22 (Sees.of rfl) (Sees.of rfl) (by omega) | exact p_index rfl wTop2_isl23 wTop2_siz22 (Sees.of rfl) (Sees.of rfl) (by omega) (by omega)))) rfl rfl rfl rfl) ?_
      refine scons (CStep.step (PStep.c (p_load rfl wTop2_agg22 (Sees.of rfl) rfl)) rfl rfl rfl rfl) ?_
      refine scons (CStep.step (PStep.c (p_assign (y := .val _) rfl (Sees.of rfl) rfl)) rfl rfl rfl rfl) ?_
      refine snil ?_
      refine f_block ?_
      refine f_seq ?_
      refine f_region ?_
      refine scons (CStep.step (PStep.c (p_move (y := .val _) rfl (Sees.of rfl) rfl)) rfl rfl rfl rfl) ?_
      refine scons (CStep.step (PStep.c (p_move (y := .val _) rfl (Sees.of rfl) rfl)) rfl rfl rfl rfl) ?_
      refine scons (CStep.step (c_call rfl wTop2_isf81 ⟨_, _, rfl, (Sees.of rfl), rfl, ⟨_, _, rfl, (Sees.of rfl), rfl, rfl⟩⟩ (hasI_spec (l.getD i []) v)) rfl rfl rfl rfl) ?_
      refine scons (CStep.step (PStep.c (p_assign (y := .val _) rfl (Sees.of rfl) rfl)) rfl rfl rfl rfl) ?_
      refine snil ?_
      refine f_cond rfl ?_ ?_
      · intro hc2
        try simp only [bs] at hc2
        refine f_region ?_
        refine scons (CStep.step (PStep.c (p_move (y := .row _ _) rfl (Sees.of rfl) rfl)) rfl rfl rfl rfl) ?_
        refine scons (CStep.step (PStep.c (p_move (y := .val _) rfl (Sees.of rfl) rfl)) rfl rfl rfl rfl) ?_
        refine scons (CStep.step (c_buildSlice (f := ints) (za := []) (xs := [.tmp 31]) rfl rfl wTop2_isl23 wTop2_siz22 wTop2_zer22 rfl rfl ⟨_, _, rfl, (Sees.of rfl), rfl, rfl, rfl⟩) rfl rfl rfl rfl) ?_
        refine scons (r_appendR (ob := 30001) rfl wTop2_isl23 wTop2_siz22 wTop2_byt22 wTop2_zer22 rfl rfl (Sees.of rfl) rfl (Sees.of rfl) (by simp only [List.length_cons, List.length_nil]; omega) (by simp only [List.length_cons, List.length_nil]; omega) rfl rfl rfl rfl rfl) ?_
        refine scons (CStep.step (PStep.c (p_assign (y := .row _ _) rfl (Sees.of rfl) rfl)) rfl rfl rfl rfl) ?_
        refine snil ?_
        refine f_nil ?_
        show AWs _ _ _ _ _
        refine f_nil ?_
        show AWs _ _ _ _ _
        refine f_region ?_
        refine scons (CStep.step (PStep.c (p_add rfl (Sees.of rfl) (Sees.of rfl) (by omega))) rfl rfl rfl rfl) ?_
        refine scons (CStep.step (PStep.c (p_move (y := .val _) rfl (Sees.of rfl) rfl)) rfl rfl rfl rfl) ?_
        refine snil ?_
        have he := Sp.el_w (by omega) hc2
        refine f_back ⟨(i + 1, x, y + 1, z), ?_, ?_, le_ofL ⟨rfl, rfl, rfl, rfl, rfl, rfl, rfl, (by rw [he.2.2]; rfl), (by rw [he.1]; rfl), (by rw [he.2.1]; rfl), rfl, trivial⟩ rfl⟩
        · show i + 1 ≤ l.length
          omega
        · show l.length - (i + 1) < l.length - i
          omega
      · intro hc2
        try simp only [bs] at hc2
        refine f_seq ?_
        refine f_region ?_
        refine scons (CStep.step (PStep.c (p_move (y := .val _) rfl (Sees.of rfl) rfl)) rfl rfl rfl rfl) ?_
        refine scons (CStep.step (PStep.c (p_move (y := .val _) rfl (Sees.of rfl) rfl)) rfl rfl rfl rfl) ?_
        refine scons (CStep.step (PStep.c (p_neg rfl (Sees.of rfl) (by omega))) rfl rfl rfl rfl) ?_
        refine scons (CStep.step (c_call rfl wTop2_isf81 ⟨_, _, rfl, (Sees.of rfl), rfl, ⟨_, _, rfl, (Sees.of rfl), rfl, rfl⟩⟩ (hasI_spec (l.getD i []) (-v))) rfl rfl rfl rfl) ?_
        refine scons (CStep.step (PStep.c (p_assign (y := .val _) rfl (Sees.of rfl) rfl)) rfl rfl rfl rfl) ?_
        refine snil ?_
        refine f_cond rfl ?_ ?_
        · intro hc3
          try simp only [bs] at hc3
          refine f_region ?_
          refine scons (CStep.step (PStep.c (p_move (y := .row _ _) rfl (Sees.of rfl) rfl)) rfl rfl rfl rfl) ?_
          refine scons (CStep.step (PStep.c (p_move (y := .val _) rfl (Sees.of rfl) rfl)) rfl rfl rfl rfl) ?_
          refine scons (CStep.step (c_buildSlice (f := ints) (za := []) (xs := [.tmp 40]) rfl rfl wTop2_isl23 wTop2_siz22 wTop2_zer22 rfl rfl ⟨_, _, rfl, (Sees.of rfl), rfl, rfl, rfl⟩) rfl rfl rfl rfl) ?_
          refine scons (r_appendR (ob := 30002) rfl wTop2_isl23 wTop2_siz22 wTop2_byt22 wTop2_zer22 rfl rfl (Sees.of rfl) rfl (Sees.of rfl) (by simp only [List.length_cons, List.length_nil]; omega) (by simp only [List.length_cons, List.length_nil]; omega) rfl rfl rfl rfl rfl) ?_
          refine scons (CStep.step (PStep.c (p_assign (y := .row _ _) rfl (Sees.of rfl) rfl)) rfl rfl rfl rfl) ?_
          refine snil ?_
          refine f_nil ?_
          show AWs _ _ _ _ _
          refine f_nil ?_
          show AWs _ _ _ _ _
          refine f_region ?_
          refine scons (CStep.step (PStep.c (p_add rfl (Sees.of rfl) (Sees.of rfl) (by omega))) rfl rfl rfl rfl) ?_
          refine scons (CStep.step (PStep.c (p_move (y := .val _) rfl (Sees.of rfl) rfl)) rfl rfl rfl rfl) ?_
          refine snil ?_
          have he := Sp.el_n (by omega) hc2 hc3
          refine f_back ⟨(i + 1, x, y, z + 1), ?_, ?_, le_ofL ⟨rfl, rfl, rfl, rfl, rfl, rfl, rfl, (by rw [he.2.2]; rfl), (by rw [he.1]; rfl), (by rw [he.2.1]; rfl), rfl, trivial⟩ rfl⟩
          · show i + 1 ≤ l.length
            omega
          · show l.length - (i + 1) < l.length - i
            omega
        · intro hc3
          try simp only [bs] at hc3
          refine f_region ?_
          refine scons (CStep.step (PStep.c (p_move (y := .row _ _) rfl (Sees.of rfl) rfl)) rfl rfl rfl rfl) ?_
          refine scons (CStep.step (PStep.c (p_move (y := .val _) rfl (Sees.of rfl) rfl)) rfl rfl rfl rfl) ?_
          refine scons (CStep.step (c_buildSlice (f := ints) (za := []) (xs := [.tmp 23]) rfl rfl wTop2_isl23 wTop2_siz22 wTop2_zer22 rfl rfl ⟨_, _, rfl, (Sees.of rfl), rfl, rfl, rfl⟩) rfl rfl rfl rfl) ?_
          refine scons (r_appendR (ob := 30000) rfl wTop2_isl23 wTop2_siz22 wTop2_byt22 wTop2_zer22 rfl rfl (Sees.of rfl) rfl (Sees.of rfl) (by simp only [List.length_cons, List.length_nil]; omega) (by simp only [List.length_cons, List.length_nil]; omega) rfl rfl rfl rfl rfl) ?_
          refine scons (CStep.step (PStep.c (p_assign (y := .row _ _) rfl (Sees.of rfl) rfl)) rfl rfl rfl rfl) ?_
          refine snil ?_
          refine f_nil ?_
          show AWs _ _ _ _ _
          refine f_nil ?_
          show AWs _ _ _ _ _
          refine f_region ?_
          refine scons (CStep.step (PStep.c (p_add rfl (Sees.of rfl) (Sees.of rfl) (by omega))) rfl rfl rfl rfl) ?_
          refine scons (CStep.step (PStep.c (p_move (y := .val _) rfl (Sees.of rfl) rfl)) rfl rfl rfl rfl) ?_
          refine snil ?_
          have he := Sp.el_r (by omega) hc2 hc3
          refine f_back ⟨(i + 1, x + 1, y, z), ?_, ?_, le_ofL ⟨rfl, rfl, rfl, rfl, rfl, rfl, rfl, (by rw [he.2.2]; rfl), (by rw [he.1]; rfl), (by rw [he.2.1]; rfl), rfl, trivial⟩ rfl⟩
          · show i + 1 ≤ l.length
            omega
          · show l.length - (i + 1) < l.length - i
            omega
    · intro hc1
      try simp only [bs] at hc1
      have hti : l.take i = l := List.take_of_length_le (by omega)
      have hwl := Sp.elW_len (l := l) (v := v) (i := i)
      have hnl := Sp.elN_len (l := l) (v := v) (i := i)
      have hrl := Sp.elR_len (l := l) (v := v) (i := i)
      have hokt : ∀ c ∈ l.take i, Sp.Okc n c := fun c hc => hok c (List.mem_of_mem_take hc)
      have hel := Sp.el_okc (l := l.take i) (v := v) hokt
      have hpr := fun p => Sp.elP_room (v := v) (w := (Sp.elW (l.take i) v)) (m := (Sp.elN (l.take i) v)) (p := p) (by omega) (by omega)
      refine f_exit ?_
      show AWs _ _ _ _ _
      refine f_seq ?_
      refine f_seq ?_
      refine f_le (GLe.le (g_freeze (k := 6) (o1 := 30001) rfl rfl rfl rfl)) ?_ (by simp)
      refine f_le (GLe.le (g_freeze (k := 7) (o1 := 30002) rfl rfl rfl rfl)) ?_ (by simp)
      refine f_region ?_
      refine scons (CStep.step (PStep.c (p_move (y := .val _) rfl (Sees.of rfl) rfl)) rfl rfl rfl rfl) ?_
      refine scons (CStep.step (PStep.c (p_len rfl wTop2_isl23 (Sees.of rfl))) rfl rfl rfl rfl) ?_
      refine scons (CStep.step (PStep.c (p_move (y := .val _) rfl (Sees.of rfl) rfl)) rfl rfl rfl rfl) ?_
      refine snil ?_
      refine f_block ?_
      refine f_loop (α := Nat × Nat) (fun (p, x2) => p ≤ (Sp.elW (l.take i) v).length) (fun (p, x2) => [(46, iv p), (44, .val (intss (Sp.elW (l.take i) v))), (45, iv (Sp.elW (l.take i) v).length), (7, .val (intss (Sp.elN (l.take i) v))), (1, iv v), (5, .row 30000 x2), (30000, .arr x2 22 1 24 ints [] ((Sp.elR (l.take i) v) ++ Sp.elP ((Sp.elW (l.take i) v).take p) (Sp.elN (l.take i) v) v)), (4, .emp)]) (fun (p, x2) => (Sp.elW (l.take i) v).length - p) (0, x) ?_ ?_ ?_
      · exact Nat.zero_le _
      · exact le_ofL ⟨rfl, rfl, rfl, rfl, rfl, rfl, (by show _ = AV.arr _ _ _ _ _ _ ((Sp.elR (l.take i) v) ++ []); rw [List.append_nil]; rfl), rfl, trivial⟩ rfl
      · rintro ⟨p, x2⟩ hp
        have hp : p ≤ (Sp.elW (l.take i) v).length := hp
        refine f_seq ?_
        refine f_region ?_
        refine scons (CStep.step (PStep.c (p_lss rfl (Sees.of rfl) (Sees.of rfl))) rfl rfl rfl rfl) ?_
        refine snil ?_
        refine f_seq ?_
        refine f_cond rfl ?_ ?_
        · intro hc4
          try simp only [bs] at hc4
          refine f_skip ?_
          refine f_seq ?_
          refine f_block ?_
          refine f_seq ?_
          refine f_region ?_
          refine scons (CStep.step (PStep.c ((by first | exact p_indexN rfl wTop2_isl23 wTop2_siz22 (Sees.of rfl) (Sees.of rfl) (by omega) | exact p_index rfl wTop2_isl23 wTop2_siz22 (Sees.of rfl) (Sees.of rfl) (by omega) (by omega)))) rfl rfl rfl rfl) ?_
          refine scons (CStep.step (PStep.c (p_load rfl wTop2_agg22 (Sees.of rfl) rfl)) rfl rfl rfl rfl) ?_
          refine scons (CStep.step (PStep.c (p_assign (y := .val _) rfl (Sees.of rfl) rfl)) rfl rfl rfl rfl) ?_
          refine snil ?_
          refine f_seq ?_
          refine f_region ?_
          refine scons (CStep.step (PStep.c (p_move (y := .val _) rfl (Sees.of rfl) rfl)) rfl rfl rfl rfl) ?_
          refine scons (CStep.step (PStep.c (p_len rfl wTop2_isl23 (Sees.of rfl))) rfl rfl rfl rfl) ?_
          refine scons (CStep.step (PStep.c (p_move (y := .val _) rfl (Sees.of rfl) rfl)) rfl rfl rfl rfl) ?_
          refine snil ?_
          refine f_block ?_
          refine f_loop (α := Nat × Nat) (fun (q, x3) => q ≤ (Sp.elN (l.take i) v).length) (fun (q, x3) => [(52, iv q), (50, .val (intss (Sp.elN (l.take i) v))), (51, iv (Sp.elN (l.take i) v).length), (11, .val (ints ((Sp.elW (l.take i) v).getD p []))), (46, iv p), (44, .val (intss (Sp.elW (l.take i) v))), (45, iv (Sp.elW (l.take i) v).length), (7, .val (intss (Sp.elN (l.take i) v))), (1, iv v), (5, .row 30000 x3), (30000, .arr x3 22 1 24 ints [] (((Sp.elR (l.take i) v) ++ Sp.elP ((Sp.elW (l.take i) v).take p) (Sp.elN (l.take i) v) v) ++ Sp.elQ ((Sp.elN (l.take i) v).take q) v ((Sp.elW (l.take i) v).getD p []))), (4, .emp)]) (fun (q, x3) => (Sp.elN (l.take i) v).length - q) (0, x2) ?_ ?_ ?_
          · exact Nat.zero_le _
          · exact le_ofL ⟨rfl, rfl, rfl, rfl, rfl, rfl, rfl, rfl, rfl, rfl, (by show _ = AV.arr _ _ _ _ _ _ (((Sp.elR (l.take i) v) ++ Sp.elP ((Sp.elW (l.take i) v).take p) (Sp.elN (l.take i) v) v) ++ []); rw [List.append_nil]; rfl), rfl, trivial⟩ rfl
          · rintro ⟨q, x3⟩ hq
            have hq : q ≤ (Sp.elN (l.take i) v).length := hq
            refine f_seq ?_
            refine f_region ?_
            refine scons (CStep.step (PStep.c (p_lss rfl (Sees.of rfl) (Sees.of rfl))) rfl rfl rfl rfl) ?_
            refine snil ?_
            refine f_seq ?_
            refine f_cond rfl ?_ ?_
            · intro hc5
              try simp only [bs] at hc5
              refine f_skip ?_
              refine f_seq ?_
              refine f_block ?_
              refine f_seq ?_
              refine f_region ?_
              refine scons (CStep.step (PStep.c ((by first | exact p_indexN rfl wTop2_isl23 wTop2_siz22 (Sees.of rfl) (Sees.of rfl) (by omega) | exact p_index rfl wTop2_isl23 wTop2_siz22 (Sees.of rfl) (Sees.of rfl) (by omega) (by omega)))) rfl rfl rfl rfl) ?_
              refine scons (CStep.step (PStep.c (p_load rfl wTop2_agg22 (Sees.of rfl) rfl)) rfl rfl rfl rfl) ?_
              refine scons (CStep.step (PStep.c (p_assign (y := .val _) rfl (Sees.of rfl) rfl)) rfl rfl rfl rfl) ?_
              refine snil ?_
              refine f_seq ?_
              have hpp := hpr p
              have hql := Sp.elQ_len (v := v) (m := (Sp.elN (l.take i) v)) (a := ((Sp.elW (l.take i) v).getD p [])) (j := q)
              have hab := Sp.okc_two (by omega) (hokt _ (List.mem_filter.1 (Sp.getD_mem (Sp.elW (l.take i) v) p [] (by omega))).1) (hokt _ (List.mem_filter.1 (Sp.getD_mem (Sp.elN (l.take i) v) q [] (by omega))).1)
              refine f_region ?_
              refine scons (CStep.step (PStep.c (p_move (y := .val _) rfl (Sees.of rfl) rfl)) rfl rfl rfl rfl) ?_
              refine scons (CStep.step (PStep.c (p_move (y := .val _) rfl (Sees.of rfl) rfl)) rfl rfl rfl rfl) ?_
              refine scons (CStep.step (PStep.c (p_move (y := .val _) rfl (Sees.of rfl) rfl)) rfl rfl rfl rfl) ?_
              refine scons (CStep.step (c_call rfl wTop2_isf102 ⟨_, _, rfl, (Sees.of rfl), rfl, ⟨_, _, rfl, (Sees.of rfl), rfl, ⟨_, _, rfl, (Sees.of rfl), rfl, rfl⟩⟩⟩ (resolve_spec ((Sp.elW (l.take i) v).getD p []) ((Sp.elN (l.take i) v).getD q []) v hab.1 hab.2)) rfl rfl rfl rfl) ?_
              refine scons (CStep.step (PStep.c (p_move (y := .val _) rfl (Sees.of rfl) rfl)) rfl rfl rfl rfl) ?_
              refine scons (CStep.step (PStep.c (p_extract rfl (Sees.of rfl) rfl)) rfl rfl rfl rfl) ?_
              refine scons (CStep.step (PStep.c (p_extract rfl (Sees.of rfl) rfl)) rfl rfl rfl rfl) ?_
              refine scons (CStep.step (PStep.c (p_assign (y := .val _) rfl (Sees.of rfl) rfl)) rfl rfl rfl rfl) ?_
              refine scons (CStep.step (PStep.c (p_assign (y := .val _) rfl (Sees.of rfl) rfl)) rfl rfl rfl rfl) ?_
              refine snil ?_
              refine f_seq ?_
              refine f_region ?_
              refine scons (CStep.step (PStep.c (p_move (y := .val _) rfl (Sees.of rfl) rfl)) rfl rfl rfl rfl) ?_
              refine snil ?_
              refine f_cond rfl ?_ ?_
              · intro hc6
                try simp only [bs] at hc6
                refine f_region ?_
                refine scons (CStep.step (PStep.c (p_move (y := .row _ _) rfl (Sees.of rfl) rfl)) rfl rfl rfl rfl) ?_
                refine scons (CStep.step (PStep.c (p_move (y := .val _) rfl (Sees.of rfl) rfl)) rfl rfl rfl rfl) ?_
                refine scons (CStep.step (c_buildSlice (f := ints) (za := []) (xs := [.tmp 65]) rfl rfl wTop2_isl23 wTop2_siz22 wTop2_zer22 rfl rfl ⟨_, _, rfl, (Sees.of rfl), rfl, rfl, rfl⟩) rfl rfl rfl rfl) ?_
                refine scons (r_appendR (ob := 30000) rfl wTop2_isl23 wTop2_siz22 wTop2_byt22 wTop2_zer22 rfl rfl (Sees.of rfl) rfl (Sees.of rfl) (by simp only [List.length_append, List.length_cons, List.length_nil]; omega) (by simp only [List.length_append, List.length_cons, List.length_nil]; omega) rfl rfl rfl rfl rfl) ?_
                refine scons (CStep.step (PStep.c (p_assign (y := .row _ _) rfl (Sees.of rfl) rfl)) rfl rfl rfl rfl) ?_
                refine snil ?_
                refine f_nil ?_
                show AWs _ _ _ _ _
                refine f_region ?_
                refine scons (CStep.step (PStep.c (p_add rfl (Sees.of rfl) (Sees.of rfl) (by omega))) rfl rfl rfl rfl) ?_
                refine scons (CStep.step (PStep.c (p_move (y := .val _) rfl (Sees.of rfl) rfl)) rfl rfl rfl rfl) ?_
                refine snil ?_
                refine f_back ⟨(q + 1, x3 + 1), ?_, ?_, le_ofL ⟨rfl, rfl, rfl, rfl, rfl, rfl, rfl, rfl, rfl, rfl, (by rw [Sp.elQ_yes (by omega) hc6, ← List.append_assoc]; rfl), rfl, trivial⟩ rfl⟩
                · show q + 1 ≤ _
                  omega
                · show _ - (q + 1) < _ - q
                  omega
              · intro hc6
                try simp only [bs] at hc6
                refine f_skip ?_
                refine f_nil ?_
                show AWs _ _ _ _ _
                refine f_region ?_
                refine scons (CStep.step (PStep.c (p_add rfl (Sees.of rfl) (Sees.of rfl) (by omega))) rfl rfl rfl rfl) ?_
                refine scons (CStep.step (PStep.c (p_move (y := .val _) rfl (Sees.of rfl) rfl)) rfl rfl rfl rfl) ?_
                refine snil ?_
                refine f_back ⟨(q + 1, x3), ?_, ?_, le_ofL ⟨rfl, rfl, rfl, rfl, rfl, rfl, rfl, rfl, rfl, rfl, (by rw [Sp.elQ_no (by omega) hc6]; rfl), rfl, trivial⟩ rfl⟩
                · show q + 1 ≤ _
                  omega
                · show _ - (q + 1) < _ - q
                  omega
            · intro hc5
              try simp only [bs] at hc5
              refine f_exit ?_
              show AWs _ _ _ _ _
              refine f_nil ?_
              show AWs _ _ _ _ _
              refine f_region ?_
              refine scons (CStep.step (PStep.c (p_add rfl (Sees.of rfl) (Sees.of rfl) (by omega))) rfl rfl rfl rfl) ?_
              refine scons (CStep.step (PStep.c (p_move (y := .val _) rfl (Sees.of rfl) rfl)) rfl rfl rfl rfl) ?_
              refine snil ?_
              refine f_back ⟨(p + 1, x3), ?_, ?_, le_ofL ⟨rfl, rfl, rfl, rfl, rfl, rfl, (by rw [Sp.elP_step (by omega), ← List.append_assoc]; show AV.arr _ _ _ _ _ _ (((Sp.elR (l.take i) v) ++ Sp.elP ((Sp.elW (l.take i) v).take p) (Sp.elN (l.take i) v) v) ++ Sp.elQ ((Sp.elN (l.take i) v).take q) v ((Sp.elW (l.take i) v).getD p [])) = _; rw [List.take_of_length_le (by omega : (Sp.elN (l.take i) v).length ≤ q)]), rfl, trivial⟩ rfl⟩
              · show p + 1 ≤ _
                omega
              · show _ - (p + 1) < _ - p
                omega
        · intro hc4
          try simp only [bs] at hc4
          have htw : (Sp.elW (l.take i) v).take p = (Sp.elW (l.take i) v) := List.take_of_length_le (by omega)
          have hpw := hpr p
          refine f_exit ?_
          show AWs _ _ _ _ _
          refine f_seq ?_
          refine f_region ?_
          refine scons (CStep.step (PStep.c (p_move (y := .row _ _) rfl (Sees.of rfl) rfl)) rfl rfl rfl rfl) ?_
          refine scons (LStep.pre (g_freeze (k := 70) (o1 := 30000) rfl rfl rfl rfl) (CStep.step (c_call rfl wTop2_isf70 ⟨_, _, rfl, (Sees.of rfl), rfl, rfl⟩ (normal_spec ((Sp.elR (l.take i) v) ++ Sp.elP ((Sp.elW (l.take i) v).take p) (Sp.elN (l.take i) v) v) (by simp only [List.length_append]; omega) (fun d hd => Sp.okc_fine (by omega) (hel d (by rw [htw] at hd; exact hd))))) rfl rfl rfl rfl)) ?_
          refine scons (CStep.step (PStep.c (p_assign (y := .val _) rfl (Sees.of rfl) rfl)) rfl rfl rfl rfl) ?_
          refine snil ?_
          refine f_ret ?_
          refine ends_ret (res_eq (res1 rfl (res_tmp rfl (Sees.of rfl))) ?_)
          rw [htw, hti]
          rfl

theorem stages1_spec (l : List Int) :
    Spec Go.Proofs.Tryz.prog 72 [.val (ints l)] (D.bool (decide ((24 : Int) < l.length))) := by
  refine spec_of' Go.Proofs.Tryz.func72 rfl Go.Proofs.Tryz.ntmps72 rfl ?_
  refine f_seq ?_
  refine f_region ?_
  refine scons (CStep.step (PStep.c (p_assign (y := .val _) rfl (Sees.of rfl) rfl)) rfl rfl rfl rfl) ?_
  refine snil ?_
  refine f_seq ?_
  refine f_region ?_
  refine scons (CStep.step (PStep.c (p_move (y := .val _) rfl (Sees.of rfl) rfl)) rfl rfl rfl rfl) ?_
  refine scons (CStep.step (PStep.c (p_len rfl wTop2_isl22 (Sees.of rfl))) rfl rfl rfl rfl) ?_
  refine scons (CStep.step (PStep.c (p_gtr rfl (Sees.of rfl) (Sees.of rfl))) rfl rfl rfl rfl) ?_
  refine scons (CStep.step (PStep.c (p_assign (y := .val _) rfl (Sees.of rfl) rfl)) rfl rfl rfl rfl) ?_
  refine snil ?_
  refine f_ret ?_
  refine ends_ret (res_eq (res1 rfl (res_tmp rfl (Sees.of rfl))) ?_)
  rfl

set_option maxHeartbeats 1000000 in
theorem stages_spec (n : Nat) (ls : List (List Int)) (vs : List Int) (hb : (Sp.beside n ls vs).1 = 0) (hv : ∀ v ∈ vs, 1 ≤ v ∧ v ≤ (n : Int)) :
    Spec Go.Proofs.Tryz.prog 31 [.val (cnf n ls), .val (ints vs)] (two (intsss (Sp.stgL ls vs)) (fault (Sp.stgF ls vs vs.length 0).1 (Sp.stgF ls vs vs.length 0).2)) := by
  refine spec_of' Go.Proofs.Tryz.func31 rfl Go.Proofs.Tryz.ntmps31 rfl ?_
  refine f_seq ?_
  obtain ⟨hck, hov⟩ := Sp.beside_ok hb
  have hcl := Sp.check_ok hck
  have hok := Sp.check_okc hck
  have hvl := Sp.okc_len hov
  refine f_region ?_
  refine scons (r_box (ob := 10002) rfl (Sees.of rfl) rfl rfl rfl rfl rfl rfl) ?_
  refine scons (CStep.step (PStep.c (p_assign (y := .emp) rfl (Sees.of rfl) rfl)) rfl rfl rfl rfl) ?_
  refine scons (r_alloc (ob := 10005) rfl wTop2_zer29 rfl rfl rfl rfl rfl rfl) ?_
  refine snil ?_
  refine f_seq ?_
  refine f_seq ?_
  refine f_region ?_
  refine scons (CStep.step (PStep.c (p_loadBS rfl wTop2_agg25 wTop2_siz25 (Sees.of rfl) rfl rfl rfl)) rfl rfl rfl rfl) ?_
  refine scons (CStep.step (PStep.c (p_move (y := .val _) rfl (Sees.of rfl) rfl)) rfl rfl rfl rfl) ?_
  refine scons (CStep.step (c_call rfl wTop2_isf33 ⟨_, _, rfl, (Sees.of rfl), rfl, ⟨_, _, rfl, (Sees.of rfl), rfl, rfl⟩⟩ (Both_spec n ls vs)) rfl rfl rfl rfl) ?_
  refine scons (r_alloc (ob := 10006) rfl wTop2_zer29 rfl rfl rfl rfl rfl rfl) ?_
  refine scons (r_storeS rfl wTop2_siz29 rfl rfl rfl (Sees.of rfl) rfl (Sees.of rfl) rfl rfl rfl rfl) ?_
  refine snil ?_
  refine f_seq ?_
  refine f_region ?_
  refine scons (CStep.step (PStep.c (p_fieldRef rfl wTop2_fld29_0 wTop2_siz3 rfl (Sees.of rfl) rfl)) rfl rfl rfl rfl) ?_
  refine scons (CStep.step (PStep.c (p_loadB (y := .val _) rfl wTop2_agg3 (Sees.of rfl) rfl rfl rfl rfl)) rfl rfl rfl rfl) ?_
  refine scons (CStep.step (PStep.c (p_neq rfl (Sees.of rfl) (Sees.of rfl))) rfl rfl rfl rfl) ?_
  refine snil ?_
  refine f_cond rfl ?_ ?_
  · intro hc1
    try simp only [bs] at hc1
    exact absurd hb hc1
  · intro hc1
    try simp only [bs] at hc1
    refine f_skip ?_
    refine f_seq ?_
    refine f_seq ?_
    refine f_region ?_
    refine scons (CStep.step (PStep.c (p_move (y := .val _) rfl (Sees.of rfl) rfl)) rfl rfl rfl rfl) ?_
    refine scons (CStep.step (PStep.c (p_len rfl wTop2_isl22 (Sees.of rfl))) rfl rfl rfl rfl) ?_
    refine scons (CStep.step (PStep.c (p_move (y := .val _) rfl (Sees.of rfl) rfl)) rfl rfl rfl rfl) ?_
    refine snil ?_
    refine f_block ?_
    refine f_loop (α := Nat) (fun i => i ≤ vs.length) (fun i => [(22, iv i), (1, .val (ints vs)), (2, .ref 10002 0 0), (5, .ref 10005 0 0), (20, .val (ints vs)), (21, iv vs.length), (10002, .box 0 (.ccons (iv n) (.ccons (.val (intss ls)) .cnil))), (10005, .box 0 (.ccons (iv 0) (.ccons (iv 0) .cnil)))]) (fun i => vs.length - i) 0 ?_ ?_ ?_
    · exact Nat.zero_le _
    · exact le_ofL ⟨rfl, rfl, rfl, rfl, rfl, rfl, rfl, rfl, trivial⟩ rfl
    · rintro i hi
      refine f_seq ?_
      refine f_region ?_
      refine scons (CStep.step (PStep.c (p_lss rfl (Sees.of rfl) (Sees.of rfl))) rfl rfl rfl rfl) ?_
      refine snil ?_
      refine f_seq ?_
      refine f_cond rfl ?_ ?_
      · intro hc2
        try simp only [bs] at hc2
        refine f_skip ?_
        refine f_seq ?_
        refine f_block ?_
        refine f_seq ?_
        refine f_region ?_
        refine scons (CStep.step (PStep.c (p_move (y := .val _) rfl (Sees.of rfl) rfl)) rfl rfl rfl rfl) ?_
        refine scons (CStep.step (PStep.c ((by first | exact p_indexN rfl wTop2_isl22 wTop2_siz3 (Sees.of rfl) (Sees.of rfl) (by omega) | exact p_index rfl wTop2_isl22 wTop2_siz3 (Sees.of rfl) (Sees.of rfl) (by omega) (by omega)))) rfl rfl rfl rfl) ?_
        refine scons (CStep.step (PStep.c (p_load rfl wTop2_agg3 (Sees.of rfl) rfl)) rfl rfl rfl rfl) ?_
        refine scons (CStep.step (PStep.c (p_assign (y := .val _) rfl (Sees.of rfl) rfl)) rfl rfl rfl rfl) ?_
        refine scons (CStep.step (PStep.c (p_assign (y := .val _) rfl (Sees.of rfl) rfl)) rfl rfl rfl rfl) ?_
        refine snil ?_
        refine f_seq ?_
        refine f_region ?_
        refine scons (CStep.step (PStep.c (p_move (y := .val _) rfl (Sees.of rfl) rfl)) rfl rfl rfl rfl) ?_
        refine scons (CStep.step (PStep.c (p_lss rfl (Sees.of rfl) (Sees.of rfl))) rfl rfl rfl rfl) ?_
        refine snil ?_
        refine f_cond rfl ?_ ?_
        · intro hc3
          try simp only [bs] at hc3
          exfalso
          have h1 := hv _ (Sp.getD_mem vs i 0 (by omega))
          omega
        · intro hc3
          try simp only [bs] at hc3
          refine f_skip ?_
          refine f_nil ?_
          show AWs _ _ _ _ _
          refine f_region ?_
          refine scons (CStep.step (PStep.c (p_add rfl (Sees.of rfl) (Sees.of rfl) (by omega))) rfl rfl rfl rfl) ?_
          refine scons (CStep.step (PStep.c (p_move (y := .val _) rfl (Sees.of rfl) rfl)) rfl rfl rfl rfl) ?_
          refine snil ?_
          refine f_back ⟨i + 1, ?_, ?_, le_ofL ⟨rfl, rfl, rfl, rfl, rfl, rfl, rfl, rfl, trivial⟩ rfl⟩
          · omega
          · omega
      · intro hc2
        try simp only [bs] at hc2
        refine f_exit ?_
        show AWs _ _ _ _ _
        refine f_seq ?_
        refine f_region ?_
        refine scons (CStep.step (PStep.c (p_fieldRef rfl wTop2_fld25_1 wTop2_siz23 rfl (Sees.of rfl) rfl)) rfl rfl rfl rfl) ?_
        refine scons (CStep.step (PStep.c (p_loadB (y := .val _) rfl wTop2_agg23 (Sees.of rfl) rfl rfl rfl rfl)) rfl rfl rfl rfl) ?_
        refine scons (CStep.step (c_call rfl wTop2_isf70 ⟨_, _, rfl, (Sees.of rfl), rfl, rfl⟩ (normal_spec ls (by omega) (fun d hd => Sp.okc_fine (by omega) (hok d hd)))) rfl rfl rfl rfl) ?_
        refine scons (r_buildRow (f := intss) (za := []) (xs := [.tmp 35]) (by_ := 24) (ob := 30000) rfl rfl wTop2_isl84 wTop2_siz23 wTop2_zer23 rfl rfl (by decide) ⟨_, _, rfl, (Sees.of rfl), rfl, rfl, rfl⟩ rfl rfl rfl rfl rfl) ?_
        refine scons (CStep.step (PStep.c (p_assign (y := .row _ _) rfl (Sees.of rfl) rfl)) rfl rfl rfl rfl) ?_
        refine snil ?_
        refine f_seq ?_
        refine f_seq ?_
        refine f_region ?_
        refine scons (CStep.step (PStep.c (p_move (y := .val _) rfl (Sees.of rfl) rfl)) rfl rfl rfl rfl) ?_
        refine scons (CStep.step (PStep.c (p_len rfl wTop2_isl22 (Sees.of rfl))) rfl rfl rfl rfl) ?_
        refine scons (CStep.step (PStep.c (p_move (y := .val _) rfl (Sees.of rfl) rfl)) rfl rfl rfl rfl) ?_
        refine snil ?_
        refine f_block ?_
        refine f_loop (α := Nat × Nat) (fun (j, u) => j ≤ vs.length ∧ (Sp.stgF ls vs vs.length 0) = Sp.stgF ls vs (vs.length - j) j ∧ ∀ k, 1 ≤ k → k ≤ j → Sp.bigB (Sp.stg ls vs k) = false) (fun (j, u) => [(39, iv j), (9, .row 30000 u), (30000, .arr u 23 1 24 intss [] (Sp.stgTo ls vs j)), (5, .ref 10005 0 0), (37, .val (ints vs)), (38, iv vs.length), (10005, .box 0 (.ccons (iv 0) (.ccons (iv 0) .cnil)))]) (fun (j, u) => vs.length - j) (0, 0) ?_ ?_ ?_
        · exact ⟨Nat.zero_le _, rfl, fun k h1 h2 => absurd h1 (by omega)⟩
        · exact le_ofL ⟨rfl, rfl, rfl, rfl, rfl, rfl, rfl, trivial⟩ rfl
        · rintro ⟨j, u⟩ ⟨hj, hF, hbig⟩
          have hj : j ≤ vs.length := hj
          refine f_seq ?_
          refine f_region ?_
          refine scons (CStep.step (PStep.c (p_lss rfl (Sees.of rfl) (Sees.of rfl))) rfl rfl rfl rfl) ?_
          refine snil ?_
          refine f_seq ?_
          refine f_cond rfl ?_ ?_
          · intro hc4
            try simp only [bs] at hc4
            refine f_skip ?_
            refine f_seq ?_
            refine f_block ?_
            refine f_seq ?_
            refine f_region ?_
            refine scons (CStep.step (PStep.c (p_move (y := .val _) rfl (Sees.of rfl) rfl)) rfl rfl rfl rfl) ?_
            refine scons (CStep.step (PStep.c ((by first | exact p_indexN rfl wTop2_isl22 wTop2_siz3 (Sees.of rfl) (Sees.of rfl) (by omega) | exact p_index rfl wTop2_isl22 wTop2_siz3 (Sees.of rfl) (Sees.of rfl) (by omega) (by omega)))) rfl rfl rfl rfl) ?_
            refine scons (CStep.step (PStep.c (p_load rfl wTop2_agg3 (Sees.of rfl) rfl)) rfl rfl rfl rfl) ?_
            refine scons (CStep.step (PStep.c (p_assign (y := .val _) rfl (Sees.of rfl) rfl)) rfl rfl rfl rfl) ?_
            refine scons (CStep.step (PStep.c (p_assign (y := .val _) rfl (Sees.of rfl) rfl)) rfl rfl rfl rfl) ?_
            refine snil ?_
            refine f_seq ?_
            have hget := Sp.stgTo_get (ls := ls) (vs := vs) (Nat.le_refl j)
            have hlen2 := Sp.stgTo_len (ls := ls) (vs := vs) (i := j)
            have hfew := Sp.stg_few (by omega) hbig
            refine f_region ?_
            refine scons (CStep.step (PStep.c (p_move (y := .row _ _) rfl (Sees.of rfl) rfl)) rfl rfl rfl rfl) ?_
            refine scons (CStep.step (PStep.c (p_move (y := .val _) rfl (Sees.of rfl) rfl)) rfl rfl rfl rfl) ?_
            refine scons (CStep.step (PStep.c ((by first | exact p_indexR rfl wTop2_isl84 wTop2_siz23 (Sees.of rfl) rfl (Sees.of rfl) (by omega) | exact p_indexRZ rfl wTop2_isl84 wTop2_siz23 (Sees.of rfl) rfl (Sees.of rfl) (by omega) (by omega)))) rfl rfl rfl rfl) ?_
            refine scons (CStep.step (PStep.c (p_loadE rfl wTop2_agg23 (Sees.of rfl) rfl (by omega) (fun _ => rfl))) rfl rfl rfl rfl) ?_
            refine scons (CStep.step (PStep.c (p_move (y := .val _) rfl (Sees.of rfl) rfl)) rfl rfl rfl rfl) ?_
            rw [hget]
            refine scons (CStep.step (c_call rfl wTop2_isf71 ⟨_, _, rfl, (Sees.of rfl), rfl, ⟨_, _, rfl, (Sees.of rfl), rfl, rfl⟩⟩ (without_spec (Sp.stg ls vs j) (vs.getD j 0) n hfew (by omega) (Sp.stg_okc hok j (by omega)) (hv _ (Sp.getD_mem vs j 0 (by omega))))) rfl rfl rfl rfl) ?_
            refine scons (CStep.step (PStep.c (p_assign (y := .val _) rfl (Sees.of rfl) rfl)) rfl rfl rfl rfl) ?_
            refine snil ?_
            refine f_seq ?_
            refine f_seq ?_
            rw [← Sp.stg_succ (by omega)]
            refine f_region ?_
            refine scons (CStep.step (PStep.c (p_move (y := .val _) rfl (Sees.of rfl) rfl)) rfl rfl rfl rfl) ?_
            refine scons (CStep.step (PStep.c (p_len rfl wTop2_isl23 (Sees.of rfl))) rfl rfl rfl rfl) ?_
            refine scons (CStep.step (PStep.c (p_gtr rfl (Sees.of rfl) (Sees.of rfl))) rfl rfl rfl rfl) ?_
            refine scons (CStep.step (PStep.c (p_move (y := .val _) rfl (Sees.of rfl) rfl)) rfl rfl rfl rfl) ?_
            refine scons (CStep.guard rfl rfl rfl (fun hg0 => PStep.c (p_move (y := .val _) rfl (Sees.of rfl) rfl)) rfl rfl rfl rfl rfl) ?_
            refine scons (CStep.guard rfl rfl rfl (fun hg0 => c_callS (q := false) rfl wTop2_isf56 (containsII_spec (Sp.stg ls vs (j + 1)) (fun x => decide ((24 : Int) < x.length)) (fun _ => True) (fun _ _ => trivial)) (sa_cons (sh_of (Sees.gv' rfl hg0) rfl) (sa_cons (sh_clo (Sees.of rfl) wTop2_isf72 (sl_nil) (fun _ => rfl) (fun _ => rfl) (fun y => stages1_spec y.1)) (sa_nil))) rfl) rfl rfl rfl rfl rfl) ?_
            refine scons (CStep.step (PStep.c (p_or rfl (Sees.of rfl) (Sees.of rfl) (fun h => Sees.gv' rfl (beq_of_eq h)))) rfl rfl rfl rfl) ?_
            refine snil ?_
            refine f_cond rfl ?_ ?_
            · intro hc5
              try simp only [bs] at hc5
              refine f_seq ?_
              refine f_region ?_
              refine scons (CStep.step (PStep.c (p_move (y := .val _) rfl (Sees.of rfl) rfl)) rfl rfl rfl rfl) ?_
              refine scons (CStep.step (PStep.c (p_build rfl wTop2_plc29 wTop2_zer29 (by decide) wTop2_zch29 ⟨_, _, _, rfl, rfl, rfl, (Sees.of rfl), ⟨_, _, _, rfl, rfl, rfl, (Sees.of rfl), rfl⟩⟩ rfl)) rfl rfl rfl rfl) ?_
              refine scons (CStep.step (PStep.c (p_assign (y := .emp) rfl (Sees.of rfl) rfl)) rfl rfl rfl rfl) ?_
              refine scons (r_storeS rfl wTop2_siz29 rfl rfl rfl (Sees.of rfl) rfl (Sees.of rfl) rfl rfl rfl rfl) ?_
              refine snil ?_
              refine f_ret ?_
              have hF2 : (Sp.stgF ls vs vs.length 0) = (10, (j : Int)) := by
                rw [hF]
                exact Sp.stgF_big (by omega) (by unfold Sp.bigB; rw [Bool.or_eq_true, decide_eq_true_eq]; exact hc5)
              refine ends_ret (res_eq (res2 rfl (res_tmp rfl (Sees.emp rfl 1 intss [])) (res_cell (by rfl) rfl rfl wTop2_agg29 wTop2_siz29 rfl rfl)) ?_)
              rw [Sp.stgL_no (by rw [hF2]; show (10 : Int) ≠ 0; decide), hF2]
              all_goals rfl
            · intro hc5
              try simp only [bs] at hc5
              refine f_skip ?_
              refine f_region ?_
              refine scons (CStep.step (PStep.c (p_move (y := .row _ _) rfl (Sees.of rfl) rfl)) rfl rfl rfl rfl) ?_
              refine scons (CStep.step (PStep.c (p_move (y := .val _) rfl (Sees.of rfl) rfl)) rfl rfl rfl rfl) ?_
              refine scons (CStep.step (c_buildSlice (f := intss) (za := []) (xs := [.tmp 60]) rfl rfl wTop2_isl84 wTop2_siz23 wTop2_zer23 rfl rfl ⟨_, _, rfl, (Sees.of rfl), rfl, rfl, rfl⟩) rfl rfl rfl rfl) ?_
              refine scons (r_appendR (ob := 30000) rfl wTop2_isl84 wTop2_siz23 wTop2_byt23 wTop2_zer23 rfl rfl (Sees.of rfl) rfl (Sees.of rfl) (by simp only [List.length_cons, List.length_nil]; omega) (by simp only [List.length_cons, List.length_nil]; omega) rfl rfl rfl rfl rfl) ?_
              refine scons (CStep.step (PStep.c (p_assign (y := .row _ _) rfl (Sees.of rfl) rfl)) rfl rfl rfl rfl) ?_
              refine snil ?_
              refine f_nil ?_
              show AWs _ _ _ _ _
              refine f_region ?_
              refine scons (CStep.step (PStep.c (p_add rfl (Sees.of rfl) (Sees.of rfl) (by omega))) rfl rfl rfl rfl) ?_
              refine scons (CStep.step (PStep.c (p_move (y := .val _) rfl (Sees.of rfl) rfl)) rfl rfl rfl rfl) ?_
              refine snil ?_
              have hnb : Sp.bigB (Sp.stg ls vs (j + 1)) = false := by
                unfold Sp.bigB
                rw [Bool.or_eq_false_iff, decide_eq_false_iff_not]
                exact ⟨by omega, hc5.2⟩
              refine f_back ⟨(j + 1, u + 1), ?_, ?_, le_ofL ⟨rfl, rfl, (by rw [Sp.stgTo_step]; rfl), rfl, rfl, rfl, rfl, trivial⟩ rfl⟩
              · refine ⟨by omega, ?_, fun k h1 h2 => ?_⟩
                · rw [hF, Sp.stgF_next (by omega) hnb, show vs.length - j - 1 = vs.length - (j + 1) by omega]
                · by_cases e : k = j + 1
                  · rw [e]; exact hnb
                  · exact hbig k h1 (by omega)
              · show vs.length - (j + 1) < vs.length - j
                omega
          · intro hc4
            try simp only [bs] at hc4
            refine f_exit ?_
            show AWs _ _ _ _ _
            refine f_seq ?_
            refine f_region ?_
            refine scons (CStep.step (PStep.c (p_move (y := .row _ _) rfl (Sees.of rfl) rfl)) rfl rfl rfl rfl) ?_
            refine scons (CStep.step (PStep.c (p_build rfl wTop2_plc29 wTop2_zer29 (by decide) wTop2_zch29 rfl rfl)) rfl rfl rfl rfl) ?_
            refine scons (CStep.step (PStep.c (p_assign (y := .row _ _) rfl (Sees.of rfl) rfl)) rfl rfl rfl rfl) ?_
            refine scons (r_storeS rfl wTop2_siz29 rfl rfl rfl (Sees.of rfl) rfl (Sees.of rfl) rfl rfl rfl rfl) ?_
            refine snil ?_
            refine f_ret ?_
            obtain rfl : j = vs.length := by omega
            have hF2 : (Sp.stgF ls vs vs.length 0) = (0, 0) := by
              rw [hF, Nat.sub_self]
              rfl
            refine ends_ret (res_eq (res2 rfl (res_row rfl rfl rfl) (res_cell (by rfl) rfl rfl wTop2_agg29 wTop2_siz29 rfl rfl)) ?_)
            rw [Sp.stgL_yes (by rw [hF2]), hF2]
            all_goals rfl

theorem elimDo_spec (n : Nat) (ls : List (List Int)) (vs : List Int) (hb : (Sp.beside n ls vs).1 = 0) (hv : ∀ v ∈ vs, 1 ≤ v ∧ v ≤ (n : Int)) :
    Spec Go.Proofs.Tryz.prog 9 [.val (cnf n ls), .val (ints vs)] (two (cnf (Sp.elimO n ls vs).1 (Sp.elimO n ls vs).2.1) (fault (Sp.elimO n ls vs).2.2.1 (Sp.elimO n ls vs).2.2.2)) := by
  refine spec_of' Go.Proofs.Tryz.func9 rfl Go.Proofs.Tryz.ntmps9 rfl ?_
  refine f_seq ?_
  refine f_region ?_
  refine scons (r_box (ob := 10002) rfl (Sees.of rfl) rfl rfl rfl rfl rfl rfl) ?_
  refine scons (r_alloc (ob := 10004) rfl wTop2_zer25 rfl rfl rfl rfl rfl rfl) ?_
  refine scons (r_alloc (ob := 10005) rfl wTop2_zer29 rfl rfl rfl rfl rfl rfl) ?_
  refine snil ?_
  refine f_seq ?_
  refine f_region ?_
  refine scons (CStep.step (PStep.c (p_loadBS rfl wTop2_agg25 wTop2_siz25 (Sees.of rfl) rfl rfl rfl)) rfl rfl rfl rfl) ?_
  refine scons (CStep.step (PStep.c (p_move (y := .val _) rfl (Sees.of rfl) rfl)) rfl rfl rfl rfl) ?_
  refine scons (CStep.step (c_call rfl wTop2_isf31 ⟨_, _, rfl, (Sees.of rfl), rfl, ⟨_, _, rfl, (Sees.of rfl), rfl, rfl⟩⟩ (stages_spec n ls vs hb hv)) rfl rfl rfl rfl) ?_
  refine scons (CStep.step (PStep.c (p_move (y := .val _) rfl (Sees.of rfl) rfl)) rfl rfl rfl rfl) ?_
  refine scons (CStep.step (PStep.c (p_extract rfl (Sees.of rfl) rfl)) rfl rfl rfl rfl) ?_
  refine scons (CStep.step (PStep.c (p_extract rfl (Sees.of rfl) rfl)) rfl rfl rfl rfl) ?_
  refine scons (r_alloc (ob := 10007) rfl wTop2_zer29 rfl rfl rfl rfl rfl rfl) ?_
  refine scons (CStep.step (PStep.c (p_assign (y := .val _) rfl (Sees.of rfl) rfl)) rfl rfl rfl rfl) ?_
  refine scons (r_storeS rfl wTop2_siz29 rfl rfl rfl (Sees.of rfl) rfl (Sees.of rfl) rfl rfl rfl rfl) ?_
  refine snil ?_
  refine f_seq ?_
  refine f_seq ?_
  refine f_region ?_
  refine scons (CStep.step (PStep.c (p_fieldRef rfl wTop2_fld29_0 wTop2_siz3 rfl (Sees.of rfl) rfl)) rfl rfl rfl rfl) ?_
  refine scons (CStep.step (PStep.c (p_loadB (y := .val _) rfl wTop2_agg3 (Sees.of rfl) rfl rfl rfl rfl)) rfl rfl rfl rfl) ?_
  refine scons (CStep.step (PStep.c (p_neq rfl (Sees.of rfl) (Sees.of rfl))) rfl rfl rfl rfl) ?_
  refine snil ?_
  refine f_cond rfl ?_ ?_
  · intro hc1
    try simp only [bs] at hc1
    refine f_seq ?_
    refine f_draw wTop2_mix (by kernel_rfl) ?_
    refine dcons (CStep.step (PStep.c (p_build rfl wTop2_plc25 wTop2_zer25 (by decide) wTop2_zch25 rfl rfl)) rfl rfl rfl rfl) ?_
    refine dcons (CStep.step (PStep.c (p_loadBS rfl wTop2_agg29 wTop2_siz29 (Sees.of rfl) rfl rfl rfl)) rfl rfl rfl rfl) ?_
    refine dcons (r_storeS rfl wTop2_siz25 rfl rfl rfl (Sees.of rfl) rfl (Sees.of rfl) rfl rfl rfl rfl) ?_
    refine dcons (r_storeS rfl wTop2_siz29 rfl rfl rfl (Sees.of rfl) rfl (Sees.of rfl) rfl rfl rfl rfl) ?_
    refine dnil (by kernel_rfl) ?_
    refine f_ret ?_
    refine ends_ret (res_eq (res2 rfl (res_cell (by rfl) rfl rfl wTop2_agg25 wTop2_siz25 rfl rfl) (res_cell (by rfl) rfl rfl wTop2_agg29 wTop2_siz29 rfl rfl)) ?_)
    rw [Sp.elimO_bad hc1]
    all_goals rfl
  · intro hc1
    try simp only [bs] at hc1
    have hst := Sp.stgL_yes hc1
    have hget := Sp.stgTo_get (ls := ls) (vs := vs) (Nat.le_refl vs.length)
    have hln := Sp.stgTo_len (ls := ls) (vs := vs) (i := vs.length)
    rw [hst]
    refine f_skip ?_
    refine f_seq ?_
    refine f_draw wTop2_mix (by kernel_rfl) ?_
    refine dcons (CStep.step (PStep.c (p_fieldRef rfl wTop2_fld25_0 wTop2_siz3 rfl (Sees.of rfl) rfl)) rfl rfl rfl rfl) ?_
    refine dcons (CStep.step (PStep.c (p_loadB (y := .val _) rfl wTop2_agg3 (Sees.of rfl) rfl rfl rfl rfl)) rfl rfl rfl rfl) ?_
    refine dcons (CStep.step (PStep.c (p_move (y := .val _) rfl (Sees.of rfl) rfl)) rfl rfl rfl rfl) ?_
    refine dcons (CStep.step (PStep.c (p_move (y := .val _) rfl (Sees.of rfl) rfl)) rfl rfl rfl rfl) ?_
    refine dcons (CStep.step (PStep.c (p_len rfl wTop2_isl22 (Sees.of rfl))) rfl rfl rfl rfl) ?_
    refine dcons (CStep.step (PStep.c ((by first | exact p_indexN rfl wTop2_isl84 wTop2_siz23 (Sees.of rfl) (Sees.of rfl) (by omega) | exact p_index rfl wTop2_isl84 wTop2_siz23 (Sees.of rfl) (Sees.of rfl) (by omega) (by omega)))) rfl rfl rfl rfl) ?_
    refine dcons (CStep.step (PStep.c (p_load rfl wTop2_agg23 (Sees.of rfl) rfl)) rfl rfl rfl rfl) ?_
    rw [hget]
    refine dcons (CStep.step (c_call rfl wTop2_isf32 ⟨_, _, rfl, (Sees.of rfl), rfl, rfl⟩ (clip_spec (Sp.stg ls vs vs.length))) rfl rfl rfl rfl) ?_
    refine dcons (CStep.step (PStep.c (p_build rfl wTop2_plc25 wTop2_zer25 (by decide) wTop2_zch25 ⟨_, _, _, rfl, rfl, rfl, (Sees.of rfl), ⟨_, _, _, rfl, rfl, rfl, (Sees.of rfl), rfl⟩⟩ rfl)) rfl rfl rfl rfl) ?_
    refine dcons (CStep.step (PStep.c (p_build rfl wTop2_plc29 wTop2_zer29 (by decide) wTop2_zch29 rfl rfl)) rfl rfl rfl rfl) ?_
    refine dcons (r_storeS rfl wTop2_siz25 rfl rfl rfl (Sees.of rfl) rfl (Sees.of rfl) rfl rfl rfl rfl) ?_
    refine dcons (r_storeS rfl wTop2_siz29 rfl rfl rfl (Sees.of rfl) rfl (Sees.of rfl) rfl rfl rfl rfl) ?_
    refine dnil (by kernel_rfl) ?_
    refine f_ret ?_
    refine ends_ret (res_eq (res2 rfl (res_cell (by rfl) rfl rfl wTop2_agg25 wTop2_siz25 rfl rfl) (res_cell (by rfl) rfl rfl wTop2_agg29 wTop2_siz29 rfl rfl)) ?_)
    rw [Sp.elimO_ok hc1]
    all_goals rfl

set_option maxHeartbeats 1000000 in
theorem Mend_spec (n : Nat) (ls : List (List Int)) (vs : List Int) (hb : (Sp.beside n ls vs).1 = 0) (hv : ∀ v ∈ vs, 1 ≤ v ∧ v ≤ (n : Int)) (a : List Bool) (ha : a.length = n) (hF : (Sp.stgF ls vs vs.length 0).1 = 0) (hall : Sp.all a (Sp.stg ls vs vs.length) = true) :
    Spec Go.Proofs.Tryz.prog 14 [.val (cnf n ls), .val (ints vs), .val (bools a)] (two (bools (Sp.mendF ls vs vs.length a)) (fault 0 0)) := by
  refine spec_of' Go.Proofs.Tryz.func14 rfl Go.Proofs.Tryz.ntmps14 rfl ?_
  refine f_seq ?_
  obtain ⟨hck, hov⟩ := Sp.beside_ok hb
  have hcl := Sp.check_ok hck
  have hok := Sp.check_okc hck
  have hvl := Sp.okc_len hov
  have hst := Sp.stgL_yes hF
  have hget := fun j => Sp.stgTo_get (ls := ls) (vs := vs) (i := vs.length) (j := j)
  have hln := Sp.stgTo_len (ls := ls) (vs := vs) (i := vs.length)
  refine f_region ?_
  refine scons (r_box (ob := 10003) rfl (Sees.of rfl) rfl rfl rfl rfl rfl rfl) ?_
  refine scons (CStep.step (PStep.c (p_assign (y := .emp) rfl (Sees.of rfl) rfl)) rfl rfl rfl rfl) ?_
  refine scons (r_alloc (ob := 10007) rfl wTop2_zer29 rfl rfl rfl rfl rfl rfl) ?_
  refine snil ?_
  refine f_seq ?_
  refine f_region ?_
  refine scons (CStep.step (PStep.c (p_loadBS rfl wTop2_agg25 wTop2_siz25 (Sees.of rfl) rfl rfl rfl)) rfl rfl rfl rfl) ?_
  refine scons (CStep.step (PStep.c (p_move (y := .val _) rfl (Sees.of rfl) rfl)) rfl rfl rfl rfl) ?_
  refine scons (CStep.step (c_call rfl wTop2_isf31 ⟨_, _, rfl, (Sees.of rfl), rfl, ⟨_, _, rfl, (Sees.of rfl), rfl, rfl⟩⟩ (stages_spec n ls vs hb hv)) rfl rfl rfl rfl) ?_
  refine scons (CStep.step (PStep.c (p_move (y := .val _) rfl (Sees.of rfl) rfl)) rfl rfl rfl rfl) ?_
  refine scons (CStep.step (PStep.c (p_extract rfl (Sees.of rfl) rfl)) rfl rfl rfl rfl) ?_
  refine scons (CStep.step (PStep.c (p_extract rfl (Sees.of rfl) rfl)) rfl rfl rfl rfl) ?_
  refine scons (r_alloc (ob := 10009) rfl wTop2_zer29 rfl rfl rfl rfl rfl rfl) ?_
  refine scons (CStep.step (PStep.c (p_assign (y := .val _) rfl (Sees.of rfl) rfl)) rfl rfl rfl rfl) ?_
  refine scons (r_storeS rfl wTop2_siz29 rfl rfl rfl (Sees.of rfl) rfl (Sees.of rfl) rfl rfl rfl rfl) ?_
  refine snil ?_
  refine f_seq ?_
  refine f_seq ?_
  rw [hst]
  refine f_region ?_
  refine scons (CStep.step (PStep.c (p_fieldRef rfl wTop2_fld29_0 wTop2_siz3 rfl (Sees.of rfl) rfl)) rfl rfl rfl rfl) ?_
  refine scons (CStep.step (PStep.c (p_loadB (y := .val _) rfl wTop2_agg3 (Sees.of rfl) rfl rfl rfl rfl)) rfl rfl rfl rfl) ?_
  refine scons (CStep.step (PStep.c (p_neq rfl (Sees.of rfl) (Sees.of rfl))) rfl rfl rfl rfl) ?_
  refine snil ?_
  refine f_cond rfl ?_ ?_
  · intro hc1
    try simp only [bs] at hc1
    exact absurd hF hc1
  · intro hc1
    try simp only [bs] at hc1
    refine f_skip ?_
    refine f_seq ?_
    refine f_block ?_
    refine f_seq ?_
    refine f_region ?_
    refine scons (CStep.step (PStep.c (p_move (y := .val _) rfl (Sees.of rfl) rfl)) rfl rfl rfl rfl) ?_
    refine scons (CStep.step (PStep.c (p_len rfl wTop2_isl33 (Sees.of rfl))) rfl rfl rfl rfl) ?_
    refine scons (CStep.step (PStep.c (p_fieldRef rfl wTop2_fld25_0 wTop2_siz3 rfl (Sees.of rfl) rfl)) rfl rfl rfl rfl) ?_
    refine scons (CStep.step (PStep.c (p_loadB (y := .val _) rfl wTop2_agg3 (Sees.of rfl) rfl rfl rfl rfl)) rfl rfl rfl rfl) ?_
    refine scons (CStep.step (PStep.c (p_neq rfl (Sees.of rfl) (Sees.of rfl))) rfl rfl rfl rfl) ?_
    refine scons (CStep.step (PStep.c (p_assign (y := .val _) rfl (Sees.of rfl) rfl)) rfl rfl rfl rfl) ?_
    refine snil ?_
    refine f_cond rfl ?_ ?_
    · intro hc2
      try simp only [bs] at hc2
      exfalso
      omega
    · intro hc2
      try simp only [bs] at hc2
      refine f_seq ?_
      refine f_region ?_
      refine scons (CStep.step (PStep.c (p_move (y := .val _) rfl (Sees.of rfl) rfl)) rfl rfl rfl rfl) ?_
      refine scons (CStep.step (PStep.c (p_move (y := .val _) rfl (Sees.of rfl) rfl)) rfl rfl rfl rfl) ?_
      refine scons (CStep.step (PStep.c (p_len rfl wTop2_isl22 (Sees.of rfl))) rfl rfl rfl rfl) ?_
      refine scons (CStep.step (PStep.c ((by first | exact p_indexN rfl wTop2_isl84 wTop2_siz23 (Sees.of rfl) (Sees.of rfl) (by omega) | exact p_index rfl wTop2_isl84 wTop2_siz23 (Sees.of rfl) (Sees.of rfl) (by omega) (by omega)))) rfl rfl rfl rfl) ?_
      refine scons (CStep.step (PStep.c (p_load rfl wTop2_agg23 (Sees.of rfl) rfl)) rfl rfl rfl rfl) ?_
      refine scons (CStep.step (PStep.c (p_move (y := .val _) rfl (Sees.of rfl) rfl)) rfl rfl rfl rfl) ?_
      rw [hget vs.length (Nat.le_refl _)]
      refine scons (CStep.step (c_call rfl wTop2_isf44 ⟨_, _, rfl, (Sees.of rfl), rfl, ⟨_, _, rfl, (Sees.of rfl), rfl, rfl⟩⟩ (call_spec (Sp.stg ls vs vs.length) a (fun c hc => by rw [ha]; exact (Sp.stg_okc hok _ (Nat.le_refl _) c hc).1))) rfl rfl rfl rfl) ?_
      refine scons (CStep.step (PStep.c (p_not rfl (Sees.of rfl))) rfl rfl rfl rfl) ?_
      refine scons (CStep.step (PStep.c (p_assign (y := .val _) rfl (Sees.of rfl) rfl)) rfl rfl rfl rfl) ?_
      refine snil ?_
      refine f_cond rfl ?_ ?_
      · intro hc3
        try simp only [bs] at hc3
        exfalso
        rw [hall] at hc3
        cases hc3
      · intro hc3
        try simp only [bs] at hc3
        refine f_skip ?_
        refine f_nil ?_
        show AWs _ _ _ _ _
        refine f_seq ?_
        refine f_region ?_
        refine scons (CStep.step (PStep.c (p_move (y := .val _) rfl (Sees.of rfl) rfl)) rfl rfl rfl rfl) ?_
        refine scons (r_callS (q := false) (ob := 30000) false rfl wTop2_isf45 (cloneB_spec a) (sa_cons (sh_of (Sees.of rfl) rfl) (sa_nil)) (.inl rfl) rfl rfl rfl rfl rfl) ?_
        refine scons (CStep.step (PStep.c (p_assign (y := .row _ _) rfl (Sees.of rfl) rfl)) rfl rfl rfl rfl) ?_
        refine snil ?_
        refine f_seq ?_
        refine f_seq ?_
        refine f_region ?_
        refine scons (CStep.step (PStep.c (p_move (y := .val _) rfl (Sees.of rfl) rfl)) rfl rfl rfl rfl) ?_
        refine scons (CStep.step (PStep.c (p_len rfl wTop2_isl22 (Sees.of rfl))) rfl rfl rfl rfl) ?_
        refine scons (CStep.step (PStep.c (p_sub rfl (Sees.of rfl) (Sees.of rfl) (by omega))) rfl rfl rfl rfl) ?_
        refine scons (CStep.step (PStep.c (p_assign (y := .val _) rfl (Sees.of rfl) rfl)) rfl rfl rfl rfl) ?_
        refine snil ?_
        refine f_block ?_
        refine f_loop (α := Nat × List Bool) (fun (j, x) => j ≤ vs.length ∧ x.length = n ∧ Sp.mendF ls vs vs.length a = Sp.mendF ls vs j x) (fun (j, x) => [(11, iv ((j : Int) - 1)), (10, .row 30000 0), (30000, .arr 0 4 1 1 D.bool false x), (8, .val (intsss (Sp.stgTo ls vs vs.length))), (1, .val (ints vs)), (6, .emp), (7, .ref 10007 0 0), (10007, .box 0 (.ccons (iv 0) (.ccons (iv 0) .cnil)))]) (fun (j, x) => j) (vs.length, a) ?_ ?_ ?_
        · exact ⟨Nat.le_refl _, ha, rfl⟩
        · exact le_ofL ⟨rfl, rfl, rfl, rfl, rfl, rfl, rfl, rfl, trivial⟩ rfl
        · rintro ⟨j, x⟩ ⟨hj, hx, hm⟩
          have hj : j ≤ vs.length := hj
          refine f_seq ?_
          refine f_seq ?_
          refine f_region ?_
          refine scons (CStep.step (PStep.c (p_move (y := .val _) rfl (Sees.of rfl) rfl)) rfl rfl rfl rfl) ?_
          refine scons (CStep.step (PStep.c (p_geq rfl (Sees.of rfl) (Sees.of rfl))) rfl rfl rfl rfl) ?_
          refine snil ?_
          refine f_cond rfl ?_ ?_
          · intro hc4
            try simp only [bs] at hc4
            refine f_skip ?_
            refine f_seq ?_
            refine f_block ?_
            refine f_seq ?_
            have hvj := hv _ (Sp.getD_mem vs ((j : Int) - 1).toNat 0 (by omega))
            refine f_region ?_
            refine scons (CStep.step (PStep.c (p_move (y := .row _ _) rfl (Sees.of rfl) rfl)) rfl rfl rfl rfl) ?_
            refine scons (CStep.step (PStep.c (p_move (y := .val _) rfl (Sees.of rfl) rfl)) rfl rfl rfl rfl) ?_
            refine scons (CStep.step (PStep.c (p_move (y := .val _) rfl (Sees.of rfl) rfl)) rfl rfl rfl rfl) ?_
            refine scons (CStep.step (PStep.c ((by first | exact p_indexN rfl wTop2_isl22 wTop2_siz3 (Sees.of rfl) (Sees.of rfl) (by omega) | exact p_index rfl wTop2_isl22 wTop2_siz3 (Sees.of rfl) (Sees.of rfl) (by omega) (by omega)))) rfl rfl rfl rfl) ?_
            refine scons (CStep.step (PStep.c (p_load rfl wTop2_agg3 (Sees.of rfl) rfl)) rfl rfl rfl rfl) ?_
            refine scons (CStep.step (PStep.c (p_sub rfl (Sees.of rfl) (Sees.of rfl) (by omega))) rfl rfl rfl rfl) ?_
            refine scons (CStep.step (PStep.c ((by first | exact p_indexR rfl wTop2_isl33 wTop2_siz4 (Sees.of rfl) rfl (Sees.of rfl) (by omega) | exact p_indexRZ rfl wTop2_isl33 wTop2_siz4 (Sees.of rfl) rfl (Sees.of rfl) (by omega) (by omega)))) rfl rfl rfl rfl) ?_
            refine scons (r_storeE rfl wTop2_siz4 rfl rfl rfl (Sees.of rfl) rfl (by omega) (Sees.of rfl) rfl) ?_
            refine snil ?_
            have hgj := hget ((j : Int) - 1).toNat (by omega)
            have hxl : (x.set ((vs.getD ((j : Int) - 1).toNat 0) - 1).toNat false).length = x.length := List.length_set
            refine f_draw wTop2_mix (by kernel_rfl) ?_
            refine dcons (CStep.step (PStep.c (p_move (y := .row _ _) rfl (Sees.of rfl) rfl)) rfl rfl rfl rfl) ?_
            refine dcons (CStep.step (PStep.c (p_move (y := .val _) rfl (Sees.of rfl) rfl)) rfl rfl rfl rfl) ?_
            refine dcons (CStep.step (PStep.c (p_move (y := .val _) rfl (Sees.of rfl) rfl)) rfl rfl rfl rfl) ?_
            refine dcons (CStep.step (PStep.c ((by first | exact p_indexN rfl wTop2_isl22 wTop2_siz3 (Sees.of rfl) (Sees.of rfl) (by omega) | exact p_index rfl wTop2_isl22 wTop2_siz3 (Sees.of rfl) (Sees.of rfl) (by omega) (by omega)))) rfl rfl rfl rfl) ?_
            refine dcons (CStep.step (PStep.c (p_load rfl wTop2_agg3 (Sees.of rfl) rfl)) rfl rfl rfl rfl) ?_
            refine dcons (CStep.step (PStep.c (p_sub rfl (Sees.of rfl) (Sees.of rfl) (by omega))) rfl rfl rfl rfl) ?_
            refine dcons (CStep.step (PStep.c (p_move (y := .val _) rfl (Sees.of rfl) rfl)) rfl rfl rfl rfl) ?_
            refine dcons (CStep.step (PStep.c (p_move (y := .val _) rfl (Sees.of rfl) rfl)) rfl rfl rfl rfl) ?_
            refine dcons (CStep.step (PStep.c ((by first | exact p_indexN rfl wTop2_isl84 wTop2_siz23 (Sees.of rfl) (Sees.of rfl) (by omega) | exact p_index rfl wTop2_isl84 wTop2_siz23 (Sees.of rfl) (Sees.of rfl) (by omega) (by omega)))) rfl rfl rfl rfl) ?_
            refine dcons (CStep.step (PStep.c (p_load rfl wTop2_agg23 (Sees.of rfl) rfl)) rfl rfl rfl rfl) ?_
            refine dcons (CStep.step (PStep.c (p_move (y := .row _ _) rfl (Sees.of rfl) rfl)) rfl rfl rfl rfl) ?_
            rw [hgj]
            refine dcons (CStep.step (c_callS (q := true) rfl wTop2_isf44 (call_spec (Sp.stg ls vs ((j : Int) - 1).toNat) (x.set ((vs.getD ((j : Int) - 1).toNat 0) - 1).toNat false) (fun c hc => by rw [hxl, hx]; exact (Sp.stg_okc hok _ (by omega) c hc).1)) (sa_cons (sh_of (Sees.of rfl) rfl) (sa_cons (sh_row (Sees.of rfl) rfl) (sa_nil))) rfl) rfl rfl rfl rfl) ?_
            refine dcons (CStep.step (PStep.c (p_not rfl (Sees.of rfl))) rfl rfl rfl rfl) ?_
            refine dcons (CStep.step (PStep.c ((by first | exact p_indexR rfl wTop2_isl33 wTop2_siz4 (Sees.of rfl) rfl (Sees.of rfl) (by omega) | exact p_indexRZ rfl wTop2_isl33 wTop2_siz4 (Sees.of rfl) rfl (Sees.of rfl) (by omega) (by omega)))) rfl rfl rfl rfl) ?_
            refine dcons (r_storeE rfl wTop2_siz4 rfl rfl rfl (Sees.of rfl) rfl (by omega) (Sees.of rfl) rfl) ?_
            refine dnil (by kernel_rfl) ?_
            refine f_nil ?_
            show AWs _ _ _ _ _
            refine f_region ?_
            refine scons (CStep.step (PStep.c (p_move (y := .val _) rfl (Sees.of rfl) rfl)) rfl rfl rfl rfl) ?_
            refine scons (CStep.step (PStep.c (p_sub rfl (Sees.of rfl) (Sees.of rfl) (by omega))) rfl rfl rfl rfl) ?_
            refine scons (CStep.step (PStep.c (p_assign (y := .val _) rfl (Sees.of rfl) rfl)) rfl rfl rfl rfl) ?_
            refine snil ?_
            have he : ((j : Int) - 1).toNat = j - 1 := by omega
            refine f_back ⟨(j - 1, Sp.mend1 (Sp.stg ls vs (j - 1)) (vs.getD (j - 1) 0) x), ?_, ?_, le_ofL ⟨(by show AV.val (.int .i64 ((j : Int) - 1 - 1)) = _; exact congrArg (fun q => AV.val (.int .i64 q)) (by omega)), rfl, (by rw [← Sp.mend_set, ← he]; rfl), rfl, rfl, rfl, rfl, rfl, trivial⟩ rfl⟩
            · exact ⟨by omega, by rw [Sp.mend1_len]; exact hx, by rw [hm, Sp.mend_step (by omega)]⟩
            · show j - 1 < j
              omega
          · intro hc4
            try simp only [bs] at hc4
            refine f_exit ?_
            show AWs _ _ _ _ _
            refine f_seq ?_
            refine f_region ?_
            refine scons (CStep.step (PStep.c (p_move (y := .row _ _) rfl (Sees.of rfl) rfl)) rfl rfl rfl rfl) ?_
            refine scons (CStep.step (PStep.c (p_build rfl wTop2_plc29 wTop2_zer29 (by decide) wTop2_zch29 rfl rfl)) rfl rfl rfl rfl) ?_
            refine scons (CStep.step (PStep.c (p_assign (y := .row _ _) rfl (Sees.of rfl) rfl)) rfl rfl rfl rfl) ?_
            refine scons (r_storeS rfl wTop2_siz29 rfl rfl rfl (Sees.of rfl) rfl (Sees.of rfl) rfl rfl rfl rfl) ?_
            refine snil ?_
            refine f_ret ?_
            refine ends_ret (res_eq (res2 rfl (res_row rfl rfl rfl) (res_cell (by rfl) rfl rfl wTop2_agg29 wTop2_siz29 rfl rfl)) ?_)
            obtain rfl : j = 0 := by omega
            rw [hm]
            all_goals rfl

set_option maxHeartbeats 2000000 in
theorem TopElim_spec (raw vars : List Int) (o : Int) :
    Spec Go.Proofs.Tryz.prog 3 [.val (ints raw), .val (ints vars), iv o] (D.bool true) := by
  refine spec_of' Go.Proofs.Tryz.func3 rfl Go.Proofs.Tryz.ntmps3 rfl ?_
  refine f_seq ?_
  have hck := Sp.cnfOf_check (l := raw) (m := 6) (n := 12) (by decide) (by decide)
  have hokc := Sp.check_okc hck
  refine f_region ?_
  refine scons (CStep.step (PStep.c (p_assign (y := .val _) rfl (Sees.of rfl) rfl)) rfl rfl rfl rfl) ?_
  refine snil ?_
  refine f_seq ?_
  refine f_region ?_
  refine scons (CStep.step (PStep.c (p_move (y := .val _) rfl (Sees.of rfl) rfl)) rfl rfl rfl rfl) ?_
  refine scons (CStep.step (c_call rfl wTop2_isf7 ⟨_, _, rfl, (Sees.of rfl), rfl, ⟨_, _, rfl, (Sees.of rfl), rfl, ⟨_, _, rfl, (Sees.of rfl), rfl, rfl⟩⟩⟩ (CnfOf_spec raw 6 12 (by omega) (by omega))) rfl rfl rfl rfl) ?_
  refine scons (r_alloc (ob := 10007) rfl wTop2_zer25 rfl rfl rfl rfl rfl rfl) ?_
  refine scons (r_storeS rfl wTop2_siz25 rfl rfl rfl (Sees.of rfl) rfl (Sees.of rfl) rfl rfl rfl rfl) ?_
  refine snil ?_
  refine f_seq ?_
  refine f_region ?_
  refine scons (CStep.step (PStep.c (p_assign (y := .emp) rfl (Sees.of rfl) rfl)) rfl rfl rfl rfl) ?_
  refine snil ?_
  refine f_seq ?_
  refine f_seq ?_
  refine f_region ?_
  refine scons (CStep.step (PStep.c (p_assign (y := .val _) rfl (Sees.of rfl) rfl)) rfl rfl rfl rfl) ?_
  refine snil ?_
  refine f_block ?_
  refine f_loop (α := Nat × Nat) (fun (i, u) => i ≤ vars.length ∧ i ≤ 3) (fun (i, u) => [(9, iv i), (1, .val (ints vars)), (2, iv o), (7, .ref 10007 0 0), (10007, .box 0 (.ccons (iv 6) (.ccons (.val (intss (Sp.cnfOf raw ((6 : Nat) : Int) 12))) .cnil))), (8, .row 30000 u), (30000, .arr u 3 1 8 di 0 (Sp.elVs vars i)), (6, bv false)]) (fun (i, u) => vars.length - i) (0, 0) ?_ ?_ ?_
  · exact ⟨Nat.zero_le _, Nat.zero_le _⟩
  · exact Le.trans (GLe.le (g_adopt (ob := 30000) (k := 8) 3 1 8 di 0 rfl rfl rfl rfl)) (le_ofL ⟨rfl, rfl, rfl, rfl, rfl, rfl, rfl, rfl, trivial⟩ rfl)
  · rintro ⟨i, u⟩ ⟨hi, hi3⟩
    have hi : i ≤ vars.length := hi
    have hi3 : i ≤ 3 := hi3
    have hvl := (Sp.elVs_ok vars i hi).2.2
    refine f_seq ?_
    refine f_seq ?_
    refine f_region ?_
    refine scons (CStep.step (PStep.c (p_move (y := .val _) rfl (Sees.of rfl) rfl)) rfl rfl rfl rfl) ?_
    refine scons (CStep.step (PStep.c (p_move (y := .val _) rfl (Sees.of rfl) rfl)) rfl rfl rfl rfl) ?_
    refine scons (CStep.step (PStep.c (p_len rfl wTop2_isl22 (Sees.of rfl))) rfl rfl rfl rfl) ?_
    refine scons (CStep.step (PStep.c (p_lss rfl (Sees.of rfl) (Sees.of rfl))) rfl rfl rfl rfl) ?_
    refine scons (CStep.step (PStep.c (p_move (y := .val _) rfl (Sees.of rfl) rfl)) rfl rfl rfl rfl) ?_
    refine scons (CStep.guard rfl rfl rfl (fun hg0 => PStep.c (p_move (y := .val _) rfl (Sees.of rfl) rfl)) rfl rfl rfl rfl rfl) ?_
    refine scons (CStep.guard rfl rfl rfl (fun hg0 => PStep.c (p_lss rfl (Sees.gv' rfl hg0) (Sees.of rfl))) rfl rfl rfl rfl rfl) ?_
    refine scons (CStep.step (PStep.c (p_and rfl (Sees.of rfl) (fun h => Sees.gv' rfl (beq_of_eq h)) (Sees.of rfl))) rfl rfl rfl rfl) ?_
    refine snil ?_
    refine f_cond rfl ?_ ?_
    · intro hc1
      try simp only [bs] at hc1
      refine f_skip ?_
      refine f_seq ?_
      refine f_block ?_
      refine f_seq ?_
      have hr := Sp.picked_rng (vars.getD i 0) (n := 6) (by decide)
      refine f_region ?_
      refine scons (CStep.step (PStep.c (p_move (y := .val _) rfl (Sees.of rfl) rfl)) rfl rfl rfl rfl) ?_
      refine scons (CStep.step (PStep.c (p_move (y := .val _) rfl (Sees.of rfl) rfl)) rfl rfl rfl rfl) ?_
      refine scons (CStep.step (PStep.c ((by first | exact p_indexN rfl wTop2_isl22 wTop2_siz3 (Sees.of rfl) (Sees.of rfl) (by omega) | exact p_index rfl wTop2_isl22 wTop2_siz3 (Sees.of rfl) (Sees.of rfl) (by omega) (by omega)))) rfl rfl rfl rfl) ?_
      refine scons (CStep.step (PStep.c (p_load rfl wTop2_agg3 (Sees.of rfl) rfl)) rfl rfl rfl rfl) ?_
      refine scons (CStep.step (c_call rfl wTop2_isf8 ⟨_, _, rfl, (Sees.of rfl), rfl, ⟨_, _, rfl, (Sees.of rfl), rfl, rfl⟩⟩ (Picked_spec (vars.getD i 0) 6 (by omega))) rfl rfl rfl rfl) ?_
      refine scons (CStep.step (PStep.c (p_add rfl (Sees.of rfl) (Sees.of rfl) (by omega))) rfl rfl rfl rfl) ?_
      refine scons (CStep.step (PStep.c (p_assign (y := .val _) rfl (Sees.of rfl) rfl)) rfl rfl rfl rfl) ?_
      refine snil ?_
      refine f_seq ?_
      refine f_region ?_
      refine scons (CStep.step (PStep.c (p_assign (y := .val _) rfl (Sees.of rfl) rfl)) rfl rfl rfl rfl) ?_
      refine snil ?_
      refine f_seq ?_
      refine f_seq ?_
      refine f_region ?_
      refine scons (CStep.step (PStep.c (p_assign (y := .val _) rfl (Sees.of rfl) rfl)) rfl rfl rfl rfl) ?_
      refine snil ?_
      refine f_block ?_
      refine f_loop (α := Nat) (fun k => k ≤ (Sp.elVs vars i).length) (fun k => [(12, iv k), (11, bv (decide ((1 + Sp.picked (vars.getD i 0) 6) ∈ (Sp.elVs vars i).take k))), (10, iv (1 + Sp.picked (vars.getD i 0) 6)), (9, iv i), (8, .row 30000 u), (30000, .arr u 3 1 8 di 0 (Sp.elVs vars i)), (1, .val (ints vars)), (2, iv o), (6, bv false), (7, .ref 10007 0 0), (10007, .box 0 (.ccons (iv 6) (.ccons (.val (intss (Sp.cnfOf raw ((6 : Nat) : Int) 12))) .cnil)))]) (fun k => (Sp.elVs vars i).length - k) 0 ?_ ?_ ?_
      · exact Nat.zero_le _
      · exact le_ofL ⟨rfl, rfl, rfl, rfl, rfl, rfl, rfl, rfl, rfl, rfl, rfl, trivial⟩ rfl
      · rintro k hk
        refine f_seq ?_
        refine f_seq ?_
        refine f_region ?_
        refine scons (CStep.step (PStep.c (p_move (y := .val _) rfl (Sees.of rfl) rfl)) rfl rfl rfl rfl) ?_
        refine scons (CStep.step (PStep.c (p_move (y := .row _ _) rfl (Sees.of rfl) rfl)) rfl rfl rfl rfl) ?_
        refine scons (CStep.step (PStep.c (p_lenR rfl wTop2_isl22 (Sees.of rfl) rfl)) rfl rfl rfl rfl) ?_
        refine scons (CStep.step (PStep.c (p_lss rfl (Sees.of rfl) (Sees.of rfl))) rfl rfl rfl rfl) ?_
        refine snil ?_
        refine f_cond rfl ?_ ?_
        · intro hc2
          try simp only [bs] at hc2
          refine f_skip ?_
          refine f_seq ?_
          refine f_block ?_
          refine f_region ?_
          refine scons (CStep.step (PStep.c (p_move (y := .val _) rfl (Sees.of rfl) rfl)) rfl rfl rfl rfl) ?_
          refine scons (CStep.step (PStep.c (p_move (y := .val _) rfl (Sees.of rfl) rfl)) rfl rfl rfl rfl) ?_
          refine scons (CStep.guard rfl rfl rfl (fun hg0 => PStep.c (p_move (y := .row _ _) rfl (Sees.of rfl) rfl)) rfl rfl rfl rfl rfl) ?_
          refine scons (CStep.guard rfl rfl rfl (fun hg0 => PStep.c (p_move (y := .val _) rfl (Sees.of rfl) rfl)) rfl rfl rfl rfl rfl) ?_
          refine scons (CStep.guard rfl rfl rfl (fun hg0 => by have hp0 := hg0; (try simp only [bs] at hp0); exact PStep.c ((by first | exact p_indexR rfl wTop2_isl22 wTop2_siz3 (Sees.gv' rfl hg0) rfl (Sees.gv' rfl hg0) (by omega) | exact p_indexRZ rfl wTop2_isl22 wTop2_siz3 (Sees.gv' rfl hg0) rfl (Sees.gv' rfl hg0) (by omega) (by omega)))) rfl rfl rfl rfl rfl) ?_
          refine scons (CStep.guard rfl rfl rfl (fun hg0 => by have hp0 := hg0; (try simp only [bs] at hp0); exact PStep.c (p_loadE rfl wTop2_agg3 (Sees.gv' rfl hg0) rfl (by omega) (fun _ => rfl))) rfl rfl rfl rfl rfl) ?_
          refine scons (CStep.guard rfl rfl rfl (fun hg0 => PStep.c (p_move (y := .val _) rfl (Sees.of rfl) rfl)) rfl rfl rfl rfl rfl) ?_
          refine scons (CStep.guard rfl rfl rfl (fun hg0 => PStep.c (p_eql rfl (Sees.gv' rfl hg0) (Sees.gv' rfl hg0))) rfl rfl rfl rfl rfl) ?_
          refine scons (CStep.step (PStep.c (p_or rfl (Sees.of rfl) (Sees.of rfl) (fun h => Sees.gv' rfl (beq_of_eq h)))) rfl rfl rfl rfl) ?_
          refine scons (CStep.step (PStep.c (p_assign (y := .val _) rfl (Sees.of rfl) rfl)) rfl rfl rfl rfl) ?_
          refine snil ?_
          refine f_nil ?_
          show AWs _ _ _ _ _
          refine f_region ?_
          refine scons (CStep.step (PStep.c (p_move (y := .val _) rfl (Sees.of rfl) rfl)) rfl rfl rfl rfl) ?_
          refine scons (CStep.step (PStep.c (p_add rfl (Sees.of rfl) (Sees.of rfl) (by omega))) rfl rfl rfl rfl) ?_
          refine scons (CStep.step (PStep.c (p_assign (y := .val _) rfl (Sees.of rfl) rfl)) rfl rfl rfl rfl) ?_
          refine snil ?_
          refine f_back ⟨k + 1, ?_, ?_, le_ofL ⟨rfl, (by rw [Sp.mem_step (by omega)]; rfl), rfl, rfl, rfl, rfl, rfl, rfl, rfl, rfl, rfl, trivial⟩ rfl⟩
          · omega
          · omega
        · intro hc2
          try simp only [bs] at hc2
          refine f_exit ?_
          show AWs _ _ _ _ _
          refine f_seq ?_
          refine f_region ?_
          refine scons (CStep.step (PStep.c (p_move (y := .val _) rfl (Sees.of rfl) rfl)) rfl rfl rfl rfl) ?_
          refine scons (CStep.step (PStep.c (p_not rfl (Sees.of rfl))) rfl rfl rfl rfl) ?_
          refine snil ?_
          refine f_cond rfl ?_ ?_
          · intro hc3
            try simp only [bs] at hc3
            refine f_region ?_
            refine scons (CStep.step (PStep.c (p_move (y := .row _ _) rfl (Sees.of rfl) rfl)) rfl rfl rfl rfl) ?_
            refine scons (CStep.step (PStep.c (p_move (y := .val _) rfl (Sees.of rfl) rfl)) rfl rfl rfl rfl) ?_
            refine scons (CStep.step (c_buildSlice (f := di) (za := 0) (xs := [.tmp 55]) rfl rfl wTop2_isl22 wTop2_siz3 wTop2_zer3 rfl rfl ⟨_, _, rfl, (Sees.of rfl), rfl, rfl, rfl⟩) rfl rfl rfl rfl) ?_
            refine scons (r_appendR (ob := 30000) rfl wTop2_isl22 wTop2_siz3 wTop2_byt3 wTop2_zer3 rfl rfl (Sees.of rfl) rfl (Sees.of rfl) (by simp only [List.length_cons, List.length_nil]; omega) (by simp only [List.length_cons, List.length_nil]; omega) rfl rfl rfl rfl rfl) ?_
            refine scons (CStep.step (PStep.c (p_assign (y := .row _ _) rfl (Sees.of rfl) rfl)) rfl rfl rfl rfl) ?_
            refine snil ?_
            refine f_nil ?_
            show AWs _ _ _ _ _
            refine f_region ?_
            refine scons (CStep.step (PStep.c (p_move (y := .val _) rfl (Sees.of rfl) rfl)) rfl rfl rfl rfl) ?_
            refine scons (CStep.step (PStep.c (p_add rfl (Sees.of rfl) (Sees.of rfl) (by omega))) rfl rfl rfl rfl) ?_
            refine scons (CStep.step (PStep.c (p_assign (y := .val _) rfl (Sees.of rfl) rfl)) rfl rfl rfl rfl) ?_
            refine snil ?_
            rw [List.take_of_length_le (by omega)] at hc3
            have hno : (Sp.elVs vars (i + 1)) = (Sp.elVs vars i) ++ [(1 + Sp.picked (vars.getD i 0) 6)] := by rw [Sp.elVs_succ (by omega), if_neg (by rw [decide_eq_true_eq]; exact hc3)]
            refine f_back ⟨(i + 1, u + 1), ?_, ?_, le_ofL ⟨rfl, rfl, rfl, rfl, rfl, rfl, (by rw [hno]; rfl), rfl, trivial⟩ rfl⟩
            · exact ⟨by omega, by omega⟩
            · show vars.length - (i + 1) < vars.length - i
              omega
          · intro hc3
            try simp only [bs] at hc3
            refine f_skip ?_
            refine f_nil ?_
            show AWs _ _ _ _ _
            refine f_region ?_
            refine scons (CStep.step (PStep.c (p_move (y := .val _) rfl (Sees.of rfl) rfl)) rfl rfl rfl rfl) ?_
            refine scons (CStep.step (PStep.c (p_add rfl (Sees.of rfl) (Sees.of rfl) (by omega))) rfl rfl rfl rfl) ?_
            refine scons (CStep.step (PStep.c (p_assign (y := .val _) rfl (Sees.of rfl) rfl)) rfl rfl rfl rfl) ?_
            refine snil ?_
            rw [List.take_of_length_le (by omega)] at hc3
            have hyes : (Sp.elVs vars (i + 1)) = (Sp.elVs vars i) := by rw [Sp.elVs_succ (by omega), if_pos (decide_eq_true hc3)]
            refine f_back ⟨(i + 1, u), ?_, ?_, le_ofL ⟨rfl, rfl, rfl, rfl, rfl, rfl, (by rw [hyes]; rfl), rfl, trivial⟩ rfl⟩
            · exact ⟨by omega, by omega⟩
            · show vars.length - (i + 1) < vars.length - i
              omega
    · intro hc1
      try simp only [bs] at hc1
      refine f_exit ?_
      show AWs _ _ _ _ _
      refine f_seq ?_
      have hvo := Sp.elVs_ok vars i (by omega)
      have hbs := Sp.beside_mk hck hvo.1
      refine f_le (GLe.le (g_freeze (k := 8) (o1 := 30000) rfl rfl rfl rfl)) ?_ (by simp)
      refine f_region ?_
      refine scons (CStep.step (PStep.c (p_loadBS rfl wTop2_agg25 wTop2_siz25 (Sees.of rfl) rfl rfl rfl)) rfl rfl rfl rfl) ?_
      refine scons (CStep.step (PStep.c (p_move (y := .val _) rfl (Sees.of rfl) rfl)) rfl rfl rfl rfl) ?_
      refine scons (CStep.step (c_call rfl wTop2_isf9 ⟨_, _, rfl, (Sees.of rfl), rfl, ⟨_, _, rfl, (Sees.of rfl), rfl, rfl⟩⟩ (elimDo_spec 6 (Sp.cnfOf raw ((6 : Nat) : Int) 12) (Sp.elVs vars i) hbs hvo.2.1)) rfl rfl rfl rfl) ?_
      refine scons (CStep.step (PStep.c (p_move (y := .val _) rfl (Sees.of rfl) rfl)) rfl rfl rfl rfl) ?_
      refine scons (CStep.step (PStep.c (p_extract rfl (Sees.of rfl) rfl)) rfl rfl rfl rfl) ?_
      refine scons (CStep.step (PStep.c (p_extract rfl (Sees.of rfl) rfl)) rfl rfl rfl rfl) ?_
      refine scons (r_alloc (ob := 10013) rfl wTop2_zer25 rfl rfl rfl rfl rfl rfl) ?_
      refine scons (r_alloc (ob := 10014) rfl wTop2_zer29 rfl rfl rfl rfl rfl rfl) ?_
      refine scons (r_storeS rfl wTop2_siz25 rfl rfl rfl (Sees.of rfl) rfl (Sees.of rfl) rfl rfl rfl rfl) ?_
      refine scons (r_storeS rfl wTop2_siz29 rfl rfl rfl (Sees.of rfl) rfl (Sees.of rfl) rfl rfl rfl rfl) ?_
      refine snil ?_
      refine f_seq ?_
      refine f_seq ?_
      refine f_region ?_
      refine scons (CStep.step (PStep.c (p_fieldRef rfl wTop2_fld29_0 wTop2_siz3 rfl (Sees.of rfl) rfl)) rfl rfl rfl rfl) ?_
      refine scons (CStep.step (PStep.c (p_loadB (y := .val _) rfl wTop2_agg3 (Sees.of rfl) rfl rfl rfl rfl)) rfl rfl rfl rfl) ?_
      refine scons (CStep.step (PStep.c (p_neq rfl (Sees.of rfl) (Sees.of rfl))) rfl rfl rfl rfl) ?_
      refine snil ?_
      refine f_cond rfl ?_ ?_
      · intro hc4
        try simp only [bs] at hc4
        refine f_seq ?_
        refine f_region ?_
        refine scons (CStep.step (PStep.c (p_fieldRef rfl wTop2_fld29_0 wTop2_siz3 rfl (Sees.of rfl) rfl)) rfl rfl rfl rfl) ?_
        refine scons (CStep.step (PStep.c (p_loadB (y := .val _) rfl wTop2_agg3 (Sees.of rfl) rfl rfl rfl rfl)) rfl rfl rfl rfl) ?_
        refine scons (CStep.step (PStep.c (p_eql rfl (Sees.of rfl) (Sees.of rfl))) rfl rfl rfl rfl) ?_
        refine scons (CStep.step (PStep.c (p_move (y := .val _) rfl (Sees.of rfl) rfl)) rfl rfl rfl rfl) ?_
        refine scons (CStep.guard rfl rfl rfl (fun hg0 => c_call rfl wTop2_isf10 rfl (clausesSure_spec)) rfl rfl rfl rfl rfl) ?_
        refine scons (CStep.step (PStep.c (p_and rfl (Sees.of rfl) (fun h => Sees.gv' rfl (beq_of_eq h)) (Sees.of rfl))) rfl rfl rfl rfl) ?_
        refine scons (CStep.step (PStep.c (p_assign (y := .val _) rfl (Sees.of rfl) rfl)) rfl rfl rfl rfl) ?_
        refine snil ?_
        refine f_ret ?_
        refine ends_ret (res_eq (res1 rfl (res_tmp rfl (Sees.of rfl))) ?_)
        rw [Sp.elim_ten hc4]
        rfl
      · intro hc4
        try simp only [bs] at hc4
        have hst0 := Sp.elim_zero hc4
        have heo := Sp.elimO_ok (n := ((6 : Nat) : Int)) hst0
        rw [heo] at hc4 ⊢
        refine f_skip ?_
        refine f_seq ?_
        refine f_seq ?_
        refine f_region ?_
        refine scons (CStep.step (PStep.c (p_fieldRef rfl wTop2_fld25_1 wTop2_siz23 rfl (Sees.of rfl) rfl)) rfl rfl rfl rfl) ?_
        refine scons (CStep.step (PStep.c (p_loadB (y := .val _) rfl wTop2_agg23 (Sees.of rfl) rfl rfl rfl rfl)) rfl rfl rfl rfl) ?_
        refine scons (CStep.step (PStep.c (p_len rfl wTop2_isl23 (Sees.of rfl))) rfl rfl rfl rfl) ?_
        refine scons (CStep.step (PStep.c (p_gtr rfl (Sees.of rfl) (Sees.of rfl))) rfl rfl rfl rfl) ?_
        refine snil ?_
        refine f_cond rfl ?_ ?_
        · intro hc5
          try simp only [bs] at hc5
          refine f_seq ?_
          refine f_region ?_
          refine scons (CStep.step (c_call rfl wTop2_isf10 rfl (clausesSure_spec)) rfl rfl rfl rfl) ?_
          refine scons (CStep.step (PStep.c (p_assign (y := .val _) rfl (Sees.of rfl) rfl)) rfl rfl rfl rfl) ?_
          refine snil ?_
          refine f_ret ?_
          refine ends_ret (res_eq (res1 rfl (res_tmp rfl (Sees.of rfl))) ?_)
          rfl
        · intro hc5
          try simp only [bs] at hc5
          have hsc := Sp.stg_check hck hst0
          obtain ⟨A, hA, hT⟩ := Sp.two_of hsc (by decide) (by omega) (Sp.opts_ok o)
          have hcan := Sp.stg_can hokc hvo.2.1
          refine f_skip ?_
          refine f_seq ?_
          refine f_draw wTop2_mix (by kernel_rfl) ?_
          refine dcons (CStep.step (PStep.c (p_loadBS rfl wTop2_agg25 wTop2_siz25 (Sees.of rfl) rfl rfl rfl)) rfl rfl rfl rfl) ?_
          refine dcons (CStep.step (PStep.c (p_move (y := .val _) rfl (Sees.of rfl) rfl)) rfl rfl rfl rfl) ?_
          refine dcons (CStep.step (c_call rfl wTop2_isf12 ⟨_, _, rfl, (Sees.of rfl), rfl, rfl⟩ (options_spec o)) rfl rfl rfl rfl) ?_
          refine dcons (CStep.step (c_call rfl wTop2_isf11 ⟨_, _, rfl, (Sees.of rfl), rfl, ⟨_, _, rfl, (Sees.emp rfl _ _ _), rfl, ⟨_, _, rfl, (Sees.of rfl), rfl, ⟨_, _, rfl, (Sees.of rfl), rfl, rfl⟩⟩⟩⟩ (Do_spec (6 : Nat) (Sp.stg (Sp.cnfOf raw ((6 : Nat) : Int) 12) (Sp.elVs vars i) (Sp.elVs vars i).length) [] (Sp.picked o 1001) (Sp.picked (Sp.q64 o 7) 4) (Sp.picked (Sp.q64 o 28) 3 * 5) (Sp.picked (Sp.q64 o 84) 3) 2000)) rfl rfl rfl rfl) ?_
          refine dcons (CStep.step (PStep.c (p_move (y := .val _) rfl (Sees.of rfl) rfl)) rfl rfl rfl rfl) ?_
          refine dcons (CStep.step (PStep.c (p_extract rfl (Sees.of rfl) rfl)) rfl rfl rfl rfl) ?_
          refine dcons (CStep.step (PStep.c (p_extract rfl (Sees.of rfl) rfl)) rfl rfl rfl rfl) ?_
          refine dcons (r_alloc (ob := 10015) rfl wTop2_zer36 rfl rfl rfl rfl rfl rfl) ?_
          refine dcons (r_alloc (ob := 10016) rfl wTop2_zer29 rfl rfl rfl rfl rfl rfl) ?_
          refine dcons (r_storeS rfl wTop2_siz36 rfl rfl rfl (Sees.of rfl) rfl (Sees.of rfl) rfl rfl rfl rfl) ?_
          refine dcons (r_storeS rfl wTop2_siz29 rfl rfl rfl (Sees.of rfl) rfl (Sees.of rfl) rfl rfl rfl rfl) ?_
          refine dnil (by kernel_rfl) ?_
          refine f_seq ?_
          refine f_seq ?_
          rw [hA]
          refine f_draw wTop2_mix (by kernel_rfl) ?_
          refine dcons (CStep.step (PStep.c (p_fieldRef rfl wTop2_fld29_0 wTop2_siz3 rfl (Sees.of rfl) rfl)) rfl rfl rfl rfl) ?_
          refine dcons (CStep.step (PStep.c (p_loadB (y := .val _) rfl wTop2_agg3 (Sees.of rfl) rfl rfl rfl rfl)) rfl rfl rfl rfl) ?_
          refine dcons (CStep.step (PStep.c (p_neq rfl (Sees.of rfl) (Sees.of rfl))) rfl rfl rfl rfl) ?_
          refine dcons (CStep.step (PStep.c (p_move (y := .val _) rfl (Sees.of rfl) rfl)) rfl rfl rfl rfl) ?_
          refine dcons (CStep.guard rfl rfl rfl (fun hg0 => c_call rfl wTop2_isf10 rfl (clausesSure_spec)) rfl rfl rfl rfl rfl) ?_
          refine dcons (CStep.guard rfl rfl rfl (fun hg0 => PStep.c (p_not rfl (Sees.gv' rfl hg0))) rfl rfl rfl rfl rfl) ?_
          refine dcons (CStep.step (PStep.c (p_or rfl (Sees.of rfl) (Sees.of rfl) (fun h => Sees.gv' rfl (beq_of_eq h)))) rfl rfl rfl rfl) ?_
          refine dcons (CStep.step (PStep.c (p_move (y := .val _) rfl (Sees.of rfl) rfl)) rfl rfl rfl rfl) ?_
          refine dcons (CStep.guard rfl rfl rfl (fun hg0 => PStep.c (p_fieldRef rfl wTop2_fld36_0 wTop2_siz3 rfl (Sees.of rfl) rfl)) rfl rfl rfl rfl rfl) ?_
          refine dcons (CStep.guard rfl rfl rfl (fun hg0 => PStep.c (p_loadB (y := .val _) rfl wTop2_agg3 (Sees.gv' rfl hg0) rfl rfl rfl rfl)) rfl rfl rfl rfl rfl) ?_
          refine dcons (CStep.guard rfl rfl rfl (fun hg0 => PStep.c (p_eql rfl (Sees.gv' rfl hg0) (Sees.of rfl))) rfl rfl rfl rfl rfl) ?_
          refine dcons (CStep.guard rfl rfl rfl (fun hg0 => PStep.c (p_loadBS rfl wTop2_agg25 wTop2_siz25 (Sees.of rfl) rfl rfl rfl)) rfl rfl rfl rfl rfl) ?_
          refine dcons (CStep.guard rfl rfl rfl (fun hg0 => by have hp0 := hg0; (try simp only [bs] at hp0); exact c_call rfl wTop2_isf13 ⟨_, _, rfl, (Sees.gv' rfl hg0), rfl, rfl⟩ (models_spec 6 (Sp.cnfOf raw ((6 : Nat) : Int) 12) (by omega) hokc)) rfl rfl rfl rfl rfl) ?_
          refine dcons (CStep.guard rfl rfl rfl (fun hg0 => PStep.c (p_gtr rfl (Sees.gv' rfl hg0) (Sees.of rfl))) rfl rfl rfl rfl rfl) ?_
          refine dcons (CStep.guard rfl rfl rfl (fun hg0 => PStep.c (p_neqB rfl wTop2_boo4 (Sees.gv' rfl hg0) (Sees.gv' rfl hg0))) rfl rfl rfl rfl rfl) ?_
          refine dcons (CStep.step (PStep.c (p_or rfl (Sees.of rfl) (Sees.of rfl) (fun h => Sees.gv' rfl (beq_of_eq h)))) rfl rfl rfl rfl) ?_
          refine dnil (by kernel_rfl) ?_
          refine f_cond rfl ?_ ?_
          · intro hc6
            try simp only [bs] at hc6
            exfalso
            have hq : (A.1 = 1) ↔ (0 : Int) < Sp.models 6 (Sp.cnfOf raw ((6 : Nat) : Int) 12) := (hT.can.trans hcan).trans (Sp.models_can.symm.trans (by omega))
            rcases hc6 with (h | h) | h
            · exact h trivial
            · cases h
            · have h9 := beq_eq_false_iff_ne.1 h
              exact h9 (decide_eq_decide.2 hq)
          · intro hc6
            try simp only [bs] at hc6
            refine f_skip ?_
            refine f_seq ?_
            refine f_seq ?_
            refine f_region ?_
            refine scons (CStep.step (PStep.c (p_fieldRef rfl wTop2_fld36_0 wTop2_siz3 rfl (Sees.of rfl) rfl)) rfl rfl rfl rfl) ?_
            refine scons (CStep.step (PStep.c (p_loadB (y := .val _) rfl wTop2_agg3 (Sees.of rfl) rfl rfl rfl rfl)) rfl rfl rfl rfl) ?_
            refine scons (CStep.step (PStep.c (p_neq rfl (Sees.of rfl) (Sees.of rfl))) rfl rfl rfl rfl) ?_
            refine snil ?_
            refine f_cond rfl ?_ ?_
            · intro hc7
              try simp only [bs] at hc7
              refine f_seq ?_
              refine f_region ?_
              refine scons (CStep.step (PStep.c (p_fieldRef rfl wTop2_fld36_0 wTop2_siz3 rfl (Sees.of rfl) rfl)) rfl rfl rfl rfl) ?_
              refine scons (CStep.step (PStep.c (p_loadB (y := .val _) rfl wTop2_agg3 (Sees.of rfl) rfl rfl rfl rfl)) rfl rfl rfl rfl) ?_
              refine scons (CStep.step (PStep.c (p_eql rfl (Sees.of rfl) (Sees.of rfl))) rfl rfl rfl rfl) ?_
              refine scons (CStep.step (PStep.c (p_assign (y := .val _) rfl (Sees.of rfl) rfl)) rfl rfl rfl rfl) ?_
              refine snil ?_
              refine f_ret ?_
              refine ends_ret (res_eq (res1 rfl (res_tmp rfl (Sees.of rfl))) ?_)
              show D.bool (decide (A.1 = 2)) = _
              rw [hT.st.resolve_left hc7]
              rfl
            · intro hc7
              try simp only [bs] at hc7
              have hY : Sp.OutY 6 (Sp.stg (Sp.cnfOf raw ((6 : Nat) : Int) 12) (Sp.elVs vars i) (Sp.elVs vars i).length) [] A := hT.or_.resolve_right (fun h => by have := h.st; omega)
              refine f_skip ?_
              refine f_seq ?_
              refine f_region ?_
              refine scons (CStep.step (PStep.c (p_loadBS rfl wTop2_agg25 wTop2_siz25 (Sees.of rfl) rfl rfl rfl)) rfl rfl rfl rfl) ?_
              refine scons (CStep.step (PStep.c (p_move (y := .val _) rfl (Sees.of rfl) rfl)) rfl rfl rfl rfl) ?_
              refine scons (CStep.step (PStep.c (p_fieldRef rfl wTop2_fld36_1 wTop2_siz33 rfl (Sees.of rfl) rfl)) rfl rfl rfl rfl) ?_
              refine scons (CStep.step (PStep.c (p_loadB (y := .val _) rfl wTop2_agg33 (Sees.of rfl) rfl rfl rfl rfl)) rfl rfl rfl rfl) ?_
              refine scons (CStep.step (c_call rfl wTop2_isf14 ⟨_, _, rfl, (Sees.of rfl), rfl, ⟨_, _, rfl, (Sees.of rfl), rfl, ⟨_, _, rfl, (Sees.of rfl), rfl, rfl⟩⟩⟩ (Mend_spec 6 (Sp.cnfOf raw ((6 : Nat) : Int) 12) (Sp.elVs vars i) hbs hvo.2.1 A.2.1 hY.len hst0 hY.ls)) rfl rfl rfl rfl) ?_
              refine scons (CStep.step (PStep.c (p_move (y := .val _) rfl (Sees.of rfl) rfl)) rfl rfl rfl rfl) ?_
              refine scons (CStep.step (PStep.c (p_extract rfl (Sees.of rfl) rfl)) rfl rfl rfl rfl) ?_
              refine scons (CStep.step (PStep.c (p_extract rfl (Sees.of rfl) rfl)) rfl rfl rfl rfl) ?_
              refine scons (r_alloc (ob := 10018) rfl wTop2_zer29 rfl rfl rfl rfl rfl rfl) ?_
              refine scons (CStep.step (PStep.c (p_assign (y := .val _) rfl (Sees.of rfl) rfl)) rfl rfl rfl rfl) ?_
              refine scons (r_storeS rfl wTop2_siz29 rfl rfl rfl (Sees.of rfl) rfl (Sees.of rfl) rfl rfl rfl rfl) ?_
              refine snil ?_
              refine f_seq ?_
              refine f_region ?_
              refine scons (CStep.step (PStep.c (p_fieldRef rfl wTop2_fld29_0 wTop2_siz3 rfl (Sees.of rfl) rfl)) rfl rfl rfl rfl) ?_
              refine scons (CStep.step (PStep.c (p_loadB (y := .val _) rfl wTop2_agg3 (Sees.of rfl) rfl rfl rfl rfl)) rfl rfl rfl rfl) ?_
              refine scons (CStep.step (PStep.c (p_eql rfl (Sees.of rfl) (Sees.of rfl))) rfl rfl rfl rfl) ?_
              refine scons (CStep.step (PStep.c (p_move (y := .val _) rfl (Sees.of rfl) rfl)) rfl rfl rfl rfl) ?_
              refine scons (CStep.guard rfl rfl rfl (fun hg0 => PStep.c (p_move (y := .val _) rfl (Sees.of rfl) rfl)) rfl rfl rfl rfl rfl) ?_
              refine scons (CStep.guard rfl rfl rfl (fun hg0 => PStep.c (p_len rfl wTop2_isl33 (Sees.gv' rfl hg0))) rfl rfl rfl rfl rfl) ?_
              refine scons (CStep.guard rfl rfl rfl (fun hg0 => PStep.c (p_eql rfl (Sees.gv' rfl hg0) (Sees.of rfl))) rfl rfl rfl rfl rfl) ?_
              refine scons (CStep.step (PStep.c (p_and rfl (Sees.of rfl) (fun h => Sees.gv' rfl (beq_of_eq h)) (Sees.of rfl))) rfl rfl rfl rfl) ?_
              refine scons (CStep.step (PStep.c (p_move (y := .val _) rfl (Sees.of rfl) rfl)) rfl rfl rfl rfl) ?_
              refine scons (CStep.guard rfl rfl rfl (fun hg0 => PStep.c (p_fieldRef rfl wTop2_fld25_1 wTop2_siz23 rfl (Sees.of rfl) rfl)) rfl rfl rfl rfl rfl) ?_
              refine scons (CStep.guard rfl rfl rfl (fun hg0 => PStep.c (p_loadB (y := .val _) rfl wTop2_agg23 (Sees.gv' rfl hg0) rfl rfl rfl rfl)) rfl rfl rfl rfl rfl) ?_
              refine scons (CStep.guard rfl rfl rfl (fun hg0 => PStep.c (p_move (y := .val _) rfl (Sees.of rfl) rfl)) rfl rfl rfl rfl rfl) ?_
              refine scons (CStep.guard rfl rfl rfl (fun hg0 => c_call rfl wTop2_isf15 ⟨_, _, rfl, (Sees.gv' rfl hg0), rfl, ⟨_, _, rfl, (Sees.gv' rfl hg0), rfl, rfl⟩⟩ (clausesHold_spec (Sp.cnfOf raw ((6 : Nat) : Int) 12) _ (by rw [Sp.mendF_len, hY.len]; exact hokc))) rfl rfl rfl rfl rfl) ?_
              refine scons (CStep.step (PStep.c (p_and rfl (Sees.of rfl) (fun h => Sees.gv' rfl (beq_of_eq h)) (Sees.of rfl))) rfl rfl rfl rfl) ?_
              refine scons (CStep.step (PStep.c (p_assign (y := .val _) rfl (Sees.of rfl) rfl)) rfl rfl rfl rfl) ?_
              refine snil ?_
              refine f_ret ?_
              refine ends_ret (res_eq (res1 rfl (res_tmp rfl (Sees.of rfl))) ?_)
              rw [Sp.mendF_len, hY.len, Sp.mendF_ok hokc hvo.2.1 _ (Nat.le_refl _) _ hY.len hY.ls]
              rfl

end Go.Um
