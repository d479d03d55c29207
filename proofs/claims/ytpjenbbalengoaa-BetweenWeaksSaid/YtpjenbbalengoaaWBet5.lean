/- Walks of Go functions of this seat, each by its contract. No condition beyond what each theorem says. -/
import Derived.Test.YtpjenbbalengoaaWBet4
import Derived.Test.YtpjenbbalengoaaProg
import Derived.KernelRfl
set_option maxRecDepth 4000
namespace Go.Um
open Go Go.RowKit

theorem wBet5_agg26 : IsAgg Go.Proofs.Try.prog 26 true := by unfold IsAgg; kernel_rfl
theorem wBet5_agg3 : IsAgg Go.Proofs.Try.prog 3 false := by unfold IsAgg; kernel_rfl
theorem wBet5_agg37 : IsAgg Go.Proofs.Try.prog 37 false := by unfold IsAgg; kernel_rfl
theorem wBet5_agg39 : IsAgg Go.Proofs.Try.prog 39 true := by unfold IsAgg; kernel_rfl
theorem wBet5_agg4 : IsAgg Go.Proofs.Try.prog 4 false := by unfold IsAgg; kernel_rfl
theorem wBet5_agg67 : IsAgg Go.Proofs.Try.prog 67 true := by unfold IsAgg; kernel_rfl
theorem wBet5_byt4 : Bytes Go.Proofs.Try.prog 4 1 := by unfold Bytes; kernel_rfl
theorem wBet5_eq226 : Eq2 Go.Proofs.Try.prog 26 := ⟨_, _, Go.Proofs.Try.underlying26, by decide, by decide, rfl, rfl, Go.Proofs.Try.underlying3, Go.Proofs.Try.underlying3, by kernel_rfl, by kernel_rfl⟩
theorem wBet5_fld26_0 : IsField Go.Proofs.Try.prog 26 0 0 3 := by unfold IsField; kernel_rfl
theorem wBet5_fld39_0 : IsField Go.Proofs.Try.prog 39 0 0 3 := by unfold IsField; kernel_rfl
theorem wBet5_fld39_1 : IsField Go.Proofs.Try.prog 39 1 1 37 := by unfold IsField; kernel_rfl
theorem wBet5_int3 : IsInt Go.Proofs.Try.prog 3 .i64 := by unfold IsInt; kernel_rfl
theorem wBet5_int30 : IsInt Go.Proofs.Try.prog 30 .u64 := by unfold IsInt; kernel_rfl
theorem wBet5_isf17 : IsFn Go.Proofs.Try.prog 17 := by unfold IsFn; kernel_rfl
theorem wBet5_isf32 : IsFn Go.Proofs.Try.prog 32 := by unfold IsFn; kernel_rfl
theorem wBet5_isf33 : IsFn Go.Proofs.Try.prog 33 := by unfold IsFn; kernel_rfl
theorem wBet5_isf34 : IsFn Go.Proofs.Try.prog 34 := by unfold IsFn; kernel_rfl
theorem wBet5_isf35 : IsFn Go.Proofs.Try.prog 35 := by unfold IsFn; kernel_rfl
theorem wBet5_isf36 : IsFn Go.Proofs.Try.prog 36 := by unfold IsFn; kernel_rfl
theorem wBet5_isf37 : IsFn Go.Proofs.Try.prog 37 := by unfold IsFn; kernel_rfl
theorem wBet5_isf38 : IsFn Go.Proofs.Try.prog 38 := by unfold IsFn; kernel_rfl
theorem wBet5_isf39 : IsFn Go.Proofs.Try.prog 39 := by unfold IsFn; kernel_rfl
theorem wBet5_isf46 : IsFn Go.Proofs.Try.prog 46 := by unfold IsFn; kernel_rfl
theorem wBet5_isf85 : IsFn Go.Proofs.Try.prog 85 := by unfold IsFn; kernel_rfl
theorem wBet5_isf86 : IsFn Go.Proofs.Try.prog 86 := by unfold IsFn; kernel_rfl
theorem wBet5_isf87 : IsFn Go.Proofs.Try.prog 87 := by unfold IsFn; kernel_rfl
theorem wBet5_isf88 : IsFn Go.Proofs.Try.prog 88 := by unfold IsFn; kernel_rfl
theorem wBet5_isf89 : IsFn Go.Proofs.Try.prog 89 := by unfold IsFn; kernel_rfl
theorem wBet5_isl24 : IsSlice Go.Proofs.Try.prog 24 4 := by unfold IsSlice; kernel_rfl
theorem wBet5_isl33 : IsSlice Go.Proofs.Try.prog 33 3 := by unfold IsSlice; kernel_rfl
theorem wBet5_isl37 : IsSlice Go.Proofs.Try.prog 37 33 := by unfold IsSlice; kernel_rfl
theorem wBet5_isl63 : IsSlice Go.Proofs.Try.prog 63 171 := by unfold IsSlice; kernel_rfl
theorem wBet5_isl65 : IsSlice Go.Proofs.Try.prog 65 79 := by unfold IsSlice; kernel_rfl
theorem wBet5_mix : (Go.Proofs.Try.prog).follows .mixedOrders = true := by kernel_rfl
theorem wBet5_plc171 : Places Go.Proofs.Try.prog 171 [(0, 1), (1, 1), (2, 1)] := by unfold Places; kernel_rfl
theorem wBet5_plc39 : Places Go.Proofs.Try.prog 39 [(0, 1), (1, 1)] := by unfold Places; kernel_rfl
theorem wBet5_plc67 : Places Go.Proofs.Try.prog 67 [(0, 1), (1, 1)] := by unfold Places; kernel_rfl
theorem wBet5_plc79 : Places Go.Proofs.Try.prog 79 [(0, 1), (1, 1), (2, 1)] := by unfold Places; kernel_rfl
theorem wBet5_siz171 : Size Go.Proofs.Try.prog 171 3 := by unfold Size; kernel_rfl
theorem wBet5_siz26 : Size Go.Proofs.Try.prog 26 2 := by unfold Size; kernel_rfl
theorem wBet5_siz3 : Size Go.Proofs.Try.prog 3 1 := by unfold Size; kernel_rfl
theorem wBet5_siz33 : Size Go.Proofs.Try.prog 33 1 := by unfold Size; kernel_rfl
theorem wBet5_siz37 : Size Go.Proofs.Try.prog 37 1 := by unfold Size; kernel_rfl
theorem wBet5_siz39 : Size Go.Proofs.Try.prog 39 2 := by unfold Size; kernel_rfl
theorem wBet5_siz4 : Size Go.Proofs.Try.prog 4 1 := by unfold Size; kernel_rfl
theorem wBet5_siz67 : Size Go.Proofs.Try.prog 67 2 := by unfold Size; kernel_rfl
theorem wBet5_siz79 : Size Go.Proofs.Try.prog 79 3 := by unfold Size; kernel_rfl
def wBet5_z171 : D := .cons (.int .i64 0) (.cons (.int .i64 0) (.cons (.int .i64 0) (.nil)))
theorem wBet5_zch171 : ∀ (ok : Nat → Prop) (w : World), R Go.Proofs.Try.prog wBet5_z171 ok w (Value.cells (.agg #[(.int .i64 0), (.int .i64 0), (.int .i64 0)])).toList := fun _ _ => z_int (z_int (z_int (z_nil)))
def wBet5_z39 : D := .cons (.int .i64 0) (.cons (intss []) (.nil))
theorem wBet5_zch39 : ∀ (ok : Nat → Prop) (w : World), R Go.Proofs.Try.prog wBet5_z39 ok w (Value.cells (.agg #[(.int .i64 0), (.slice none 0 0)])).toList := fun _ _ => z_int (z_list (z_nil))
def wBet5_z67 : D := .cons (chos []) (.cons (.int .i64 0) (.nil))
theorem wBet5_zch67 : ∀ (ok : Nat → Prop) (w : World), R Go.Proofs.Try.prog wBet5_z67 ok w (Value.cells (.agg #[(.slice none 0 0), (.int .i64 0)])).toList := fun _ _ => z_list (z_int (z_nil))
def wBet5_z79 : D := .cons (.int .i64 0) (.cons (.int .i64 0) (.cons (.int .i64 0) (.nil)))
theorem wBet5_zch79 : ∀ (ok : Nat → Prop) (w : World), R Go.Proofs.Try.prog wBet5_z79 ok w (Value.cells (.agg #[(.int .i64 0), (.int .i64 0), (.int .i64 0)])).toList := fun _ _ => z_int (z_int (z_int (z_nil)))
theorem wBet5_zer171 : Zero Go.Proofs.Try.prog 171 (.agg #[(.int .i64 0), (.int .i64 0), (.int .i64 0)]) := by unfold Zero; kernel_rfl
theorem wBet5_zer26 : Zero Go.Proofs.Try.prog 26 (.agg #[(.int .i64 0), (.int .i64 0)]) := by unfold Zero; kernel_rfl
theorem wBet5_zer3 : Zero Go.Proofs.Try.prog 3 (.int .i64 0) := by unfold Zero; kernel_rfl
theorem wBet5_zer33 : Zero Go.Proofs.Try.prog 33 (.slice none 0 0) := by unfold Zero; kernel_rfl
theorem wBet5_zer39 : Zero Go.Proofs.Try.prog 39 (.agg #[(.int .i64 0), (.slice none 0 0)]) := by unfold Zero; kernel_rfl
theorem wBet5_zer4 : Zero Go.Proofs.Try.prog 4 (.bool false) := by unfold Zero; kernel_rfl
theorem wBet5_zer67 : Zero Go.Proofs.Try.prog 67 (.agg #[(.slice none 0 0), (.int .i64 0)]) := by unfold Zero; kernel_rfl
theorem wBet5_zer79 : Zero Go.Proofs.Try.prog 79 (.agg #[(.int .i64 0), (.int .i64 0), (.int .i64 0)]) := by unfold Zero; kernel_rfl

theorem told_spec (e : Bool) (k : Nat) (a b : List (List Int)) (l : List Sp.Rs) (hpf : Sp.Prf k a b l) (hk8 : k ≤ 8) :
    Spec Go.Proofs.Try.prog 38 [.val (cnf k a), .val (cnf k b), .val (chos l), bv e] (dia (Sp.grow k [] (Sp.dtab (Sp.lastP e a b l) k) 1).1 (Sp.grow k [] (Sp.dtab (Sp.lastP e a b l) k) 1).2) := by
  refine spec_of' Go.Proofs.Try.func38 rfl Go.Proofs.Try.ntmps38 rfl ?_
  refine f_seq ?_
  have hp16 : 2 ^ k ≤ 65536 := Nat.pow_le_pow_right (n := 2) (by decide) (show k ≤ 16 by omega)
  have hpw := Sp.pow_ok (m := k) (by omega)
  have hpi := Sp.pow_int k
  refine f_region ?_
  refine scons (r_box (ob := 10004) rfl (Sees.of rfl) rfl rfl rfl rfl rfl rfl) ?_
  refine scons (r_box (ob := 10005) rfl (Sees.of rfl) rfl rfl rfl rfl rfl rfl) ?_
  refine scons (r_alloc (ob := 10008) rfl wBet5_zer67 rfl rfl rfl rfl rfl rfl) ?_
  refine snil ?_
  refine f_seq ?_
  refine f_region ?_
  refine scons (CStep.step (PStep.c (p_assign (y := .emp) rfl (Sees.of rfl) rfl)) rfl rfl rfl rfl) ?_
  refine snil ?_
  refine f_seq ?_
  refine f_seq ?_
  refine f_region ?_
  refine scons (CStep.step (PStep.c (p_assign (y := .val _) rfl (Sees.of rfl) rfl)) rfl rfl rfl rfl) ?_
  refine snil ?_
  refine f_block ?_
  refine f_loop (α := Nat × Nat) (fun (i, u) => i ≤ 2 ^ k) (fun (i, u) => [(10, iv i), (9, .row 30000 u), (30000, .arr u 4 1 1 D.bool false ((Sp.dtab (Sp.lastP e a b l) k).take i)), (4, .ref 10004 0 0), (10004, .box 0 (.ccons (iv k) (.ccons (.val (intss a)) .cnil))), (5, .ref 10005 0 0), (10005, .box 0 (.ccons (iv k) (.ccons (.val (intss b)) .cnil))), (2, .val (chos l)), (3, bv e), (8, .ref 10008 0 0), (10008, .box 0 (.ccons (.emp) (.ccons (iv 0) .cnil)))]) (fun (i, u) => 2 ^ k - i) (0, 0) ?_ ?_ ?_
  · exact Nat.zero_le _
  · exact Le.trans (GLe.le (g_adopt (ob := 30000) (k := 9) 4 1 1 D.bool false rfl rfl rfl rfl)) (le_ofL ⟨rfl, rfl, rfl, rfl, rfl, rfl, rfl, rfl, rfl, rfl, rfl, trivial⟩ rfl)
  · rintro ⟨i, u⟩ hi
    have hi : i ≤ 2 ^ k := hi
    refine f_seq ?_
    refine f_seq ?_
    refine f_region ?_
    refine scons (CStep.step (PStep.c (p_move (y := .val _) rfl (Sees.of rfl) rfl)) rfl rfl rfl rfl) ?_
    refine scons (CStep.step (PStep.c (p_fieldRef rfl wBet5_fld39_0 wBet5_siz3 rfl (Sees.of rfl) rfl)) rfl rfl rfl rfl) ?_
    refine scons (CStep.step (PStep.c (p_loadB (y := .val _) rfl wBet5_agg3 (Sees.of rfl) rfl rfl rfl rfl)) rfl rfl rfl rfl) ?_
    refine scons (CStep.step (PStep.c (p_convU rfl wBet5_int3 wBet5_int30 (Sees.of rfl) (by omega))) rfl rfl rfl rfl) ?_
    refine scons (CStep.step (PStep.c (p_shl rfl (Sees.of rfl) (Sees.of rfl) (by omega) (by omega) (by first | omega | assumption))) rfl rfl rfl rfl) ?_
    refine scons (CStep.step (PStep.c (p_lss rfl (Sees.of rfl) (Sees.of rfl))) rfl rfl rfl rfl) ?_
    refine snil ?_
    refine f_cond rfl ?_ ?_
    · intro hc1
      try simp only [bs] at hc1
      refine f_skip ?_
      refine f_seq ?_
      refine f_block ?_
      refine f_seq ?_
      refine f_draw wBet5_mix (by kernel_rfl) ?_
      refine dcons (CStep.step (PStep.c (p_loadBS rfl wBet5_agg39 wBet5_siz39 (Sees.of rfl) rfl rfl rfl)) rfl rfl rfl rfl) ?_
      refine dcons (CStep.step (PStep.c (p_loadBS rfl wBet5_agg39 wBet5_siz39 (Sees.of rfl) rfl rfl rfl)) rfl rfl rfl rfl) ?_
      refine dcons (CStep.step (PStep.c (p_move (y := .val _) rfl (Sees.of rfl) rfl)) rfl rfl rfl rfl) ?_
      refine dcons (CStep.step (PStep.c (p_fieldRef rfl wBet5_fld39_0 wBet5_siz3 rfl (Sees.of rfl) rfl)) rfl rfl rfl rfl) ?_
      refine dcons (CStep.step (PStep.c (p_loadB (y := .val _) rfl wBet5_agg3 (Sees.of rfl) rfl rfl rfl rfl)) rfl rfl rfl rfl) ?_
      refine dcons (CStep.step (PStep.c (p_move (y := .val _) rfl (Sees.of rfl) rfl)) rfl rfl rfl rfl) ?_
      refine dcons (CStep.step (c_call rfl wBet5_isf17 ⟨_, _, rfl, (Sees.of rfl), rfl, ⟨_, _, rfl, (Sees.of rfl), rfl, rfl⟩⟩ ((bits_spec k i (by omega)).spec false)) rfl rfl rfl rfl) ?_
      refine dcons (CStep.step (PStep.c (p_move (y := .val _) rfl (Sees.of rfl) rfl)) rfl rfl rfl rfl) ?_
      refine dcons (r_callS (q := false) (ob := 30010) false rfl wBet5_isf89 (tells_spec e k a b l (Sp.bits k i) hpf (Sp.bits_length _ _)) (sa_cons (sh_of (Sees.of rfl) rfl) (sa_cons (sh_of (Sees.of rfl) rfl) (sa_cons (sh_of (Sees.of rfl) rfl) (sa_cons (sh_of (Sees.of rfl) rfl) (sa_cons (sh_of (Sees.of rfl) rfl) (sa_nil)))))) (.inl rfl) rfl rfl rfl rfl rfl) ?_
      refine dcons (CStep.step (PStep.c (p_assign (y := .row _ _) rfl (Sees.of rfl) rfl)) rfl rfl rfl rfl) ?_
      refine dnil (by kernel_rfl) ?_
      have hpl := Sp.prtTo_len (e := e) (a := a) (b := b) (l := l) l.length (Nat.le_refl _)
      have hl0 := hpf.l0
      have hll := hpf.ll
      have hlab := hpf.lab
      have htl := Sp.dtab_len (Sp.lastP e a b l) k
      have hml : ((Sp.prtTo e a b l l.length).map fun p : Sp.Prd => p (Sp.bits k i)).length = a.length + b.length + l.length := by rw [List.length_map, hpl]
      refine f_region ?_
      refine scons (CStep.step (PStep.c (p_move (y := .row _ _) rfl (Sees.of rfl) rfl)) rfl rfl rfl rfl) ?_
      refine scons (CStep.step (PStep.c (p_move (y := .row _ _) rfl (Sees.of rfl) rfl)) rfl rfl rfl rfl) ?_
      refine scons (CStep.step (PStep.c (p_move (y := .row _ _) rfl (Sees.of rfl) rfl)) rfl rfl rfl rfl) ?_
      refine scons (CStep.step (PStep.c (p_lenR rfl wBet5_isl24 (Sees.of rfl) rfl)) rfl rfl rfl rfl) ?_
      refine scons (CStep.step (PStep.c (p_sub rfl (Sees.of rfl) (Sees.of rfl) (by omega))) rfl rfl rfl rfl) ?_
      refine scons (CStep.step (PStep.c ((by first | exact p_indexR rfl wBet5_isl24 wBet5_siz4 (Sees.of rfl) rfl (Sees.of rfl) (by rw [hml]; omega) | exact p_indexRZ rfl wBet5_isl24 wBet5_siz4 (Sees.of rfl) rfl (Sees.of rfl) (by omega) (by rw [hml]; omega)))) rfl rfl rfl rfl) ?_
      refine scons (CStep.step (PStep.c (p_loadE rfl wBet5_agg4 (Sees.of rfl) rfl (by rw [hml]; omega) (fun _ => rfl))) rfl rfl rfl rfl) ?_
      refine scons (CStep.step (c_buildSlice (f := D.bool) (za := false) (xs := [.tmp 35]) rfl rfl wBet5_isl24 wBet5_siz4 wBet5_zer4 rfl rfl ⟨_, _, rfl, (Sees.of rfl), rfl, rfl, rfl⟩) rfl rfl rfl rfl) ?_
      refine scons (r_appendR (ob := 30000) rfl wBet5_isl24 wBet5_siz4 wBet5_byt4 wBet5_zer4 rfl rfl (Sees.of rfl) rfl (Sees.of rfl) (by simp only [List.length_take, htl, List.length_cons, List.length_nil]; omega) (by simp only [List.length_take, htl, List.length_cons, List.length_nil]; omega) rfl rfl rfl rfl rfl) ?_
      refine scons (CStep.step (PStep.c (p_assign (y := .row _ _) rfl (Sees.of rfl) rfl)) rfl rfl rfl rfl) ?_
      refine snil ?_
      refine f_nil ?_
      show AWs _ _ _ _ _
      refine f_region ?_
      refine scons (CStep.step (PStep.c (p_move (y := .val _) rfl (Sees.of rfl) rfl)) rfl rfl rfl rfl) ?_
      refine scons (CStep.step (PStep.c (p_add rfl (Sees.of rfl) (Sees.of rfl) (by omega))) rfl rfl rfl rfl) ?_
      refine scons (CStep.step (PStep.c (p_assign (y := .val _) rfl (Sees.of rfl) rfl)) rfl rfl rfl rfl) ?_
      refine snil ?_
      refine f_back ⟨(i + 1, u + 1), ?_, ?_, le_ofL ⟨rfl, rfl, (by rw [Sp.take_getD _ i false (by omega), Sp.dtab_at _ _ _ (by omega), ← Sp.last_get hpf e (Sp.bits k i) rfl]; rfl), rfl, rfl, rfl, rfl, rfl, rfl, rfl, rfl, trivial⟩ rfl⟩
      · show i + 1 ≤ 2 ^ k
        omega
      · show 2 ^ k - (i + 1) < 2 ^ k - i
        omega
    · intro hc1
      try simp only [bs] at hc1
      refine f_exit ?_
      show AWs _ _ _ _ _
      refine f_seq ?_
      obtain rfl : i = 2 ^ k := by omega
      refine f_le (GLe.le (g_freeze (k := 9) (o1 := 30000) rfl rfl rfl rfl)) ?_ (by simp)
      refine f_region ?_
      refine scons (CStep.step (PStep.c (p_move (y := .val _) rfl (Sees.of rfl) rfl)) rfl rfl rfl rfl) ?_
      refine scons (CStep.step (c_call rfl wBet5_isf46 ⟨_, _, rfl, (Sees.of rfl), rfl, rfl⟩ (DiaOf_spec k ((Sp.dtab (Sp.lastP e a b l) k).take (2 ^ k)) (by omega) (by rw [List.length_take, Sp.dtab_len, Nat.min_self]))) rfl rfl rfl rfl) ?_
      refine scons (r_storeS rfl wBet5_siz67 rfl rfl rfl (Sees.of rfl) rfl (Sees.of rfl) rfl rfl rfl rfl) ?_
      refine snil ?_
      refine f_ret ?_
      refine ends_ret (res_eq (res1 rfl (res_cell (by rfl) rfl rfl wBet5_agg67 wBet5_siz67 rfl rfl)) ?_)
      rw [List.take_of_length_le (by rw [Sp.dtab_len]; exact Nat.le_refl _)]
      rfl

theorem first_spec  :
    Spec Go.Proofs.Try.prog 85 [] (cnf 2 Sp.exA) := by
  refine spec_of' Go.Proofs.Try.func85 rfl Go.Proofs.Try.ntmps85 rfl ?_
  refine f_seq ?_
  refine f_region ?_
  refine scons (r_alloc (ob := 10000) rfl wBet5_zer39 rfl rfl rfl rfl rfl rfl) ?_
  refine snil ?_
  refine f_seq ?_
  refine f_region ?_
  refine scons (CStep.step (c_buildSlice (f := di) (za := 0) (xs := [.const (.int .i64 1)]) rfl rfl wBet5_isl33 wBet5_siz3 wBet5_zer3 rfl rfl ⟨_, _, rfl, (Sees.of rfl), rfl, rfl, rfl⟩) rfl rfl rfl rfl) ?_
  refine scons (CStep.step (c_buildSlice (f := di) (za := 0) (xs := [.const (.int .i64 (-1)), .const (.int .i64 2)]) rfl rfl wBet5_isl33 wBet5_siz3 wBet5_zer3 rfl rfl ⟨_, _, rfl, (Sees.of rfl), rfl, rfl, ⟨_, _, rfl, (Sees.of rfl), rfl, rfl, rfl⟩⟩) rfl rfl rfl rfl) ?_
  refine scons (CStep.step (c_buildSlice (f := ints) (za := []) (xs := [.tmp 1, .tmp 2]) rfl rfl wBet5_isl37 wBet5_siz33 wBet5_zer33 rfl rfl ⟨_, _, rfl, (Sees.of rfl), rfl, rfl, ⟨_, _, rfl, (Sees.of rfl), rfl, rfl, rfl⟩⟩) rfl rfl rfl rfl) ?_
  refine scons (CStep.step (PStep.c (p_build rfl wBet5_plc39 wBet5_zer39 (by decide) wBet5_zch39 ⟨_, _, _, rfl, rfl, rfl, (Sees.of rfl), ⟨_, _, _, rfl, rfl, rfl, (Sees.of rfl), rfl⟩⟩ rfl)) rfl rfl rfl rfl) ?_
  refine scons (r_storeS rfl wBet5_siz39 rfl rfl rfl (Sees.of rfl) rfl (Sees.of rfl) rfl rfl rfl rfl) ?_
  refine snil ?_
  refine f_ret ?_
  refine ends_ret (res_eq (res1 rfl (res_cell (by rfl) rfl rfl wBet5_agg39 wBet5_siz39 rfl rfl)) ?_)
  rfl

theorem second_spec  :
    Spec Go.Proofs.Try.prog 86 [] (cnf 2 Sp.exB) := by
  refine spec_of' Go.Proofs.Try.func86 rfl Go.Proofs.Try.ntmps86 rfl ?_
  refine f_seq ?_
  refine f_region ?_
  refine scons (r_alloc (ob := 10000) rfl wBet5_zer39 rfl rfl rfl rfl rfl rfl) ?_
  refine snil ?_
  refine f_seq ?_
  refine f_region ?_
  refine scons (CStep.step (c_buildSlice (f := di) (za := 0) (xs := [.const (.int .i64 (-2))]) rfl rfl wBet5_isl33 wBet5_siz3 wBet5_zer3 rfl rfl ⟨_, _, rfl, (Sees.of rfl), rfl, rfl, rfl⟩) rfl rfl rfl rfl) ?_
  refine scons (CStep.step (c_buildSlice (f := ints) (za := []) (xs := [.tmp 1]) rfl rfl wBet5_isl37 wBet5_siz33 wBet5_zer33 rfl rfl ⟨_, _, rfl, (Sees.of rfl), rfl, rfl, rfl⟩) rfl rfl rfl rfl) ?_
  refine scons (CStep.step (PStep.c (p_build rfl wBet5_plc39 wBet5_zer39 (by decide) wBet5_zch39 ⟨_, _, _, rfl, rfl, rfl, (Sees.of rfl), ⟨_, _, _, rfl, rfl, rfl, (Sees.of rfl), rfl⟩⟩ rfl)) rfl rfl rfl rfl) ?_
  refine scons (r_storeS rfl wBet5_siz39 rfl rfl rfl (Sees.of rfl) rfl (Sees.of rfl) rfl rfl rfl rfl) ?_
  refine snil ?_
  refine f_ret ?_
  refine ends_ret (res_eq (res1 rfl (res_cell (by rfl) rfl rfl wBet5_agg39 wBet5_siz39 rfl rfl)) ?_)
  rfl

theorem proof_spec  :
    Spec Go.Proofs.Try.prog 87 [] (chos Sp.exL) := by
  refine spec_of' Go.Proofs.Try.func87 rfl Go.Proofs.Try.ntmps87 rfl ?_
  refine f_seq ?_
  refine f_region ?_
  refine scons (CStep.step (PStep.c (p_assign (y := .emp) rfl (Sees.of rfl) rfl)) rfl rfl rfl rfl) ?_
  refine snil ?_
  refine f_seq ?_
  refine f_region ?_
  refine scons (CStep.step (PStep.c (p_build rfl wBet5_plc171 wBet5_zer171 (by decide) wBet5_zch171 ⟨_, _, _, rfl, rfl, rfl, (Sees.of rfl), ⟨_, _, _, rfl, rfl, rfl, (Sees.of rfl), ⟨_, _, _, rfl, rfl, rfl, (Sees.of rfl), rfl⟩⟩⟩ rfl)) rfl rfl rfl rfl) ?_
  refine scons (CStep.step (PStep.c (p_build rfl wBet5_plc171 wBet5_zer171 (by decide) wBet5_zch171 ⟨_, _, _, rfl, rfl, rfl, (Sees.of rfl), ⟨_, _, _, rfl, rfl, rfl, (Sees.of rfl), ⟨_, _, _, rfl, rfl, rfl, (Sees.of rfl), rfl⟩⟩⟩ rfl)) rfl rfl rfl rfl) ?_
  refine scons (CStep.step (c_buildSlice (f := dCho) (za := (0, 0, 0)) (xs := [.tmp 1, .tmp 2]) rfl rfl wBet5_isl63 wBet5_siz171 wBet5_zer171 rfl rfl ⟨(_, _, _), _, rfl, (Sees.of rfl), rfl, rfl, ⟨(_, _, _), _, rfl, (Sees.of rfl), rfl, rfl, rfl⟩⟩) rfl rfl rfl rfl) ?_
  refine scons (CStep.step (PStep.c (p_assign (y := .val _) rfl (Sees.of rfl) rfl)) rfl rfl rfl rfl) ?_
  refine snil ?_
  refine f_ret ?_
  refine ends_ret (res_eq (res1 rfl (res_tmp rfl (Sees.of rfl))) ?_)
  rfl

theorem two_spec  :
    Spec Go.Proofs.Try.prog 88 [] (dia [(2, 0, 1)] 2) := by
  refine spec_of' Go.Proofs.Try.func88 rfl Go.Proofs.Try.ntmps88 rfl ?_
  refine f_seq ?_
  refine f_region ?_
  refine scons (r_alloc (ob := 10000) rfl wBet5_zer67 rfl rfl rfl rfl rfl rfl) ?_
  refine snil ?_
  refine f_seq ?_
  refine f_region ?_
  refine scons (CStep.step (PStep.c (p_build rfl wBet5_plc79 wBet5_zer79 (by decide) wBet5_zch79 ⟨_, _, _, rfl, rfl, rfl, (Sees.of rfl), ⟨_, _, _, rfl, rfl, rfl, (Sees.of rfl), ⟨_, _, _, rfl, rfl, rfl, (Sees.of rfl), rfl⟩⟩⟩ rfl)) rfl rfl rfl rfl) ?_
  refine scons (CStep.step (c_buildSlice (f := dCho) (za := (0, 0, 0)) (xs := [.tmp 1]) rfl rfl wBet5_isl65 wBet5_siz79 wBet5_zer79 rfl rfl ⟨(_, _, _), _, rfl, (Sees.of rfl), rfl, rfl, rfl⟩) rfl rfl rfl rfl) ?_
  refine scons (CStep.step (PStep.c (p_build rfl wBet5_plc67 wBet5_zer67 (by decide) wBet5_zch67 ⟨_, _, _, rfl, rfl, rfl, (Sees.of rfl), ⟨_, _, _, rfl, rfl, rfl, (Sees.of rfl), rfl⟩⟩ rfl)) rfl rfl rfl rfl) ?_
  refine scons (r_storeS rfl wBet5_siz67 rfl rfl rfl (Sees.of rfl) rfl (Sees.of rfl) rfl rfl rfl rfl) ?_
  refine snil ?_
  refine f_ret ?_
  refine ends_ret (res_eq (res1 rfl (res_cell (by rfl) rfl rfl wBet5_agg67 wBet5_siz67 rfl rfl)) ?_)
  rfl

theorem betweenSure_spec  :
    Spec Go.Proofs.Try.prog 36 [] (D.bool true) := by
  refine spec_of' Go.Proofs.Try.func36 rfl Go.Proofs.Try.ntmps36 rfl ?_
  refine f_seq ?_
  refine f_region ?_
  refine scons (CStep.step (PStep.c (p_assign (y := .val _) rfl (Sees.of rfl) rfl)) rfl rfl rfl rfl) ?_
  refine snil ?_
  refine f_seq ?_
  refine f_region ?_
  refine scons (CStep.step (c_call rfl wBet5_isf85 rfl (first_spec)) rfl rfl rfl rfl) ?_
  refine scons (CStep.step (c_call rfl wBet5_isf86 rfl (second_spec)) rfl rfl rfl rfl) ?_
  refine scons (CStep.step (c_call rfl wBet5_isf87 rfl (proof_spec)) rfl rfl rfl rfl) ?_
  refine scons (CStep.step (c_call rfl wBet5_isf33 ⟨_, _, rfl, (Sees.of rfl), rfl, ⟨_, _, rfl, (Sees.of rfl), rfl, ⟨_, _, rfl, (Sees.of rfl), rfl, rfl⟩⟩⟩ (Take_spec 2 Sp.exA 2 Sp.exB Sp.exL)) rfl rfl rfl rfl) ?_
  refine scons (CStep.step (PStep.c (p_move (y := .val _) rfl (Sees.of rfl) rfl)) rfl rfl rfl rfl) ?_
  refine scons (CStep.step (PStep.c (p_extract rfl (Sees.of rfl) rfl)) rfl rfl rfl rfl) ?_
  refine scons (CStep.step (PStep.c (p_extract rfl (Sees.of rfl) rfl)) rfl rfl rfl rfl) ?_
  refine scons (r_alloc (ob := 10001) rfl wBet5_zer67 rfl rfl rfl rfl rfl rfl) ?_
  refine scons (r_alloc (ob := 10002) rfl wBet5_zer26 rfl rfl rfl rfl rfl rfl) ?_
  refine scons (r_storeS rfl wBet5_siz67 rfl rfl rfl (Sees.of rfl) rfl (Sees.of rfl) rfl rfl rfl rfl) ?_
  refine scons (r_storeS rfl wBet5_siz26 rfl rfl rfl (Sees.of rfl) rfl (Sees.of rfl) rfl rfl rfl rfl) ?_
  refine snil ?_
  refine f_seq ?_
  refine f_region ?_
  refine scons (CStep.step (c_call rfl wBet5_isf85 rfl (first_spec)) rfl rfl rfl rfl) ?_
  refine scons (CStep.step (c_call rfl wBet5_isf86 rfl (second_spec)) rfl rfl rfl rfl) ?_
  refine scons (CStep.step (c_call rfl wBet5_isf87 rfl (proof_spec)) rfl rfl rfl rfl) ?_
  refine scons (CStep.step (c_call rfl wBet5_isf39 ⟨_, _, rfl, (Sees.of rfl), rfl, ⟨_, _, rfl, (Sees.of rfl), rfl, ⟨_, _, rfl, (Sees.of rfl), rfl, rfl⟩⟩⟩ (Even_spec 2 Sp.exA 2 Sp.exB Sp.exL)) rfl rfl rfl rfl) ?_
  refine scons (CStep.step (PStep.c (p_move (y := .val _) rfl (Sees.of rfl) rfl)) rfl rfl rfl rfl) ?_
  refine scons (CStep.step (PStep.c (p_extract rfl (Sees.of rfl) rfl)) rfl rfl rfl rfl) ?_
  refine scons (CStep.step (PStep.c (p_extract rfl (Sees.of rfl) rfl)) rfl rfl rfl rfl) ?_
  refine scons (r_alloc (ob := 10003) rfl wBet5_zer67 rfl rfl rfl rfl rfl rfl) ?_
  refine scons (r_alloc (ob := 10004) rfl wBet5_zer26 rfl rfl rfl rfl rfl rfl) ?_
  refine scons (r_storeS rfl wBet5_siz67 rfl rfl rfl (Sees.of rfl) rfl (Sees.of rfl) rfl rfl rfl rfl) ?_
  refine scons (r_storeS rfl wBet5_siz26 rfl rfl rfl (Sees.of rfl) rfl (Sees.of rfl) rfl rfl rfl rfl) ?_
  refine snil ?_
  refine f_seq ?_
  refine f_draw wBet5_mix (by kernel_rfl) ?_
  refine dcons (CStep.step (PStep.c (p_fieldRef rfl wBet5_fld26_0 wBet5_siz3 rfl (Sees.of rfl) rfl)) rfl rfl rfl rfl) ?_
  refine dcons (CStep.step (PStep.c (p_loadB (y := .val _) rfl wBet5_agg3 (Sees.of rfl) rfl rfl rfl rfl)) rfl rfl rfl rfl) ?_
  refine dcons (CStep.step (PStep.c (p_eql rfl (Sees.of rfl) (Sees.of rfl))) rfl rfl rfl rfl) ?_
  refine dcons (CStep.step (PStep.c (p_move (y := .val _) rfl (Sees.of rfl) rfl)) rfl rfl rfl rfl) ?_
  refine dcons (CStep.guard rfl rfl rfl (fun hg0 => PStep.c (p_fieldRef rfl wBet5_fld26_0 wBet5_siz3 rfl (Sees.of rfl) rfl)) rfl rfl rfl rfl rfl) ?_
  refine dcons (CStep.guard rfl rfl rfl (fun hg0 => PStep.c (p_loadB (y := .val _) rfl wBet5_agg3 (Sees.gv' rfl hg0) rfl rfl rfl rfl)) rfl rfl rfl rfl rfl) ?_
  refine dcons (CStep.guard rfl rfl rfl (fun hg0 => PStep.c (p_eql rfl (Sees.gv' rfl hg0) (Sees.of rfl))) rfl rfl rfl rfl rfl) ?_
  refine dcons (CStep.step (PStep.c (p_and rfl (Sees.of rfl) (fun h => Sees.gv' rfl (beq_of_eq h)) (Sees.of rfl))) rfl rfl rfl rfl) ?_
  refine dcons (CStep.step (PStep.c (p_move (y := .val _) rfl (Sees.of rfl) rfl)) rfl rfl rfl rfl) ?_
  refine dcons (CStep.guard rfl rfl rfl (fun hg0 => PStep.c (p_loadBS rfl wBet5_agg67 wBet5_siz67 (Sees.of rfl) rfl rfl rfl)) rfl rfl rfl rfl rfl) ?_
  refine dcons (CStep.guard rfl rfl rfl (fun hg0 => c_call rfl wBet5_isf88 rfl (two_spec)) rfl rfl rfl rfl rfl) ?_
  refine dcons (CStep.guard rfl rfl rfl (fun hg0 => c_call rfl wBet5_isf37 ⟨_, _, rfl, (Sees.gv' rfl hg0), rfl, ⟨_, _, rfl, (Sees.gv' rfl hg0), rfl, rfl⟩⟩ (DiaSame_spec _ _ _ _)) rfl rfl rfl rfl rfl) ?_
  refine dcons (CStep.step (PStep.c (p_and rfl (Sees.of rfl) (fun h => Sees.gv' rfl (beq_of_eq h)) (Sees.of rfl))) rfl rfl rfl rfl) ?_
  refine dcons (CStep.step (PStep.c (p_move (y := .val _) rfl (Sees.of rfl) rfl)) rfl rfl rfl rfl) ?_
  refine dcons (CStep.guard rfl rfl rfl (fun hg0 => PStep.c (p_loadBS rfl wBet5_agg67 wBet5_siz67 (Sees.of rfl) rfl rfl rfl)) rfl rfl rfl rfl rfl) ?_
  refine dcons (CStep.guard rfl rfl rfl (fun hg0 => c_call rfl wBet5_isf88 rfl (two_spec)) rfl rfl rfl rfl rfl) ?_
  refine dcons (CStep.guard rfl rfl rfl (fun hg0 => c_call rfl wBet5_isf37 ⟨_, _, rfl, (Sees.gv' rfl hg0), rfl, ⟨_, _, rfl, (Sees.gv' rfl hg0), rfl, rfl⟩⟩ (DiaSame_spec _ _ _ _)) rfl rfl rfl rfl rfl) ?_
  refine dcons (CStep.step (PStep.c (p_and rfl (Sees.of rfl) (fun h => Sees.gv' rfl (beq_of_eq h)) (Sees.of rfl))) rfl rfl rfl rfl) ?_
  refine dcons (CStep.step (PStep.c (p_assign (y := .val _) rfl (Sees.of rfl) rfl)) rfl rfl rfl rfl) ?_
  refine dnil (by kernel_rfl) ?_
  refine f_ret ?_
  refine ends_ret (res_eq (res1 rfl (res_tmp rfl (Sees.of rfl))) ?_)
  rw [Sp.ex_tak, Sp.ex_tak]
  rfl

theorem wide_spec (n : Int) (a : List (List Int)) (m : Int) (b : List (List Int)) :
    Spec Go.Proofs.Try.prog 32 [.val (cnf n a), .val (cnf m b)] (D.bool (decide (8 < n) || decide (8 < m) || decide ((40 : Int) < a.length) || decide ((40 : Int) < b.length))) := by
  refine spec_of' Go.Proofs.Try.func32 rfl Go.Proofs.Try.ntmps32 rfl ?_
  refine f_seq ?_
  refine f_region ?_
  refine scons (r_box (ob := 10002) rfl (Sees.of rfl) rfl rfl rfl rfl rfl rfl) ?_
  refine scons (r_box (ob := 10003) rfl (Sees.of rfl) rfl rfl rfl rfl rfl rfl) ?_
  refine scons (CStep.step (PStep.c (p_assign (y := .val _) rfl (Sees.of rfl) rfl)) rfl rfl rfl rfl) ?_
  refine snil ?_
  refine f_seq ?_
  refine f_region ?_
  refine scons (CStep.step (PStep.c (p_fieldRef rfl wBet5_fld39_0 wBet5_siz3 rfl (Sees.of rfl) rfl)) rfl rfl rfl rfl) ?_
  refine scons (CStep.step (PStep.c (p_loadB (y := .val _) rfl wBet5_agg3 (Sees.of rfl) rfl rfl rfl rfl)) rfl rfl rfl rfl) ?_
  refine scons (CStep.step (PStep.c (p_gtr rfl (Sees.of rfl) (Sees.of rfl))) rfl rfl rfl rfl) ?_
  refine scons (CStep.step (PStep.c (p_move (y := .val _) rfl (Sees.of rfl) rfl)) rfl rfl rfl rfl) ?_
  refine scons (CStep.guard rfl rfl rfl (fun hg0 => PStep.c (p_fieldRef rfl wBet5_fld39_0 wBet5_siz3 rfl (Sees.of rfl) rfl)) rfl rfl rfl rfl rfl) ?_
  refine scons (CStep.guard rfl rfl rfl (fun hg0 => PStep.c (p_loadB (y := .val _) rfl wBet5_agg3 (Sees.gv' rfl hg0) rfl rfl rfl rfl)) rfl rfl rfl rfl rfl) ?_
  refine scons (CStep.guard rfl rfl rfl (fun hg0 => PStep.c (p_gtr rfl (Sees.gv' rfl hg0) (Sees.of rfl))) rfl rfl rfl rfl rfl) ?_
  refine scons (CStep.step (PStep.c (p_or rfl (Sees.of rfl) (Sees.of rfl) (fun h => Sees.gv' rfl (beq_of_eq h)))) rfl rfl rfl rfl) ?_
  refine scons (CStep.step (PStep.c (p_move (y := .val _) rfl (Sees.of rfl) rfl)) rfl rfl rfl rfl) ?_
  refine scons (CStep.guard rfl rfl rfl (fun hg0 => PStep.c (p_fieldRef rfl wBet5_fld39_1 wBet5_siz37 rfl (Sees.of rfl) rfl)) rfl rfl rfl rfl rfl) ?_
  refine scons (CStep.guard rfl rfl rfl (fun hg0 => PStep.c (p_loadB (y := .val _) rfl wBet5_agg37 (Sees.gv' rfl hg0) rfl rfl rfl rfl)) rfl rfl rfl rfl rfl) ?_
  refine scons (CStep.guard rfl rfl rfl (fun hg0 => PStep.c (p_len rfl wBet5_isl37 (Sees.gv' rfl hg0))) rfl rfl rfl rfl rfl) ?_
  refine scons (CStep.guard rfl rfl rfl (fun hg0 => PStep.c (p_gtr rfl (Sees.gv' rfl hg0) (Sees.of rfl))) rfl rfl rfl rfl rfl) ?_
  refine scons (CStep.step (PStep.c (p_or rfl (Sees.of rfl) (Sees.of rfl) (fun h => Sees.gv' rfl (beq_of_eq h)))) rfl rfl rfl rfl) ?_
  refine scons (CStep.step (PStep.c (p_move (y := .val _) rfl (Sees.of rfl) rfl)) rfl rfl rfl rfl) ?_
  refine scons (CStep.guard rfl rfl rfl (fun hg0 => PStep.c (p_fieldRef rfl wBet5_fld39_1 wBet5_siz37 rfl (Sees.of rfl) rfl)) rfl rfl rfl rfl rfl) ?_
  refine scons (CStep.guard rfl rfl rfl (fun hg0 => PStep.c (p_loadB (y := .val _) rfl wBet5_agg37 (Sees.gv' rfl hg0) rfl rfl rfl rfl)) rfl rfl rfl rfl rfl) ?_
  refine scons (CStep.guard rfl rfl rfl (fun hg0 => PStep.c (p_len rfl wBet5_isl37 (Sees.gv' rfl hg0))) rfl rfl rfl rfl rfl) ?_
  refine scons (CStep.guard rfl rfl rfl (fun hg0 => PStep.c (p_gtr rfl (Sees.gv' rfl hg0) (Sees.of rfl))) rfl rfl rfl rfl rfl) ?_
  refine scons (CStep.step (PStep.c (p_or rfl (Sees.of rfl) (Sees.of rfl) (fun h => Sees.gv' rfl (beq_of_eq h)))) rfl rfl rfl rfl) ?_
  refine scons (CStep.step (PStep.c (p_assign (y := .val _) rfl (Sees.of rfl) rfl)) rfl rfl rfl rfl) ?_
  refine snil ?_
  refine f_ret ?_
  refine ends_ret (res_eq (res1 rfl (res_tmp rfl (Sees.of rfl))) ?_)
  rfl

theorem BetweenTakes_spec (n : Int) (a : List (List Int)) (m : Int) (b : List (List Int)) (l : List Sp.Rs) :
    Spec Go.Proofs.Try.prog 10 [.val (cnf n a), .val (cnf m b), .val (chos l)] (D.bool true) := by
  refine spec_of' Go.Proofs.Try.func10 rfl Go.Proofs.Try.ntmps10 rfl ?_
  refine f_seq ?_
  refine f_region ?_
  refine scons (r_box (ob := 10003) rfl (Sees.of rfl) rfl rfl rfl rfl rfl rfl) ?_
  refine scons (r_box (ob := 10004) rfl (Sees.of rfl) rfl rfl rfl rfl rfl rfl) ?_
  refine scons (CStep.step (PStep.c (p_assign (y := .val _) rfl (Sees.of rfl) rfl)) rfl rfl rfl rfl) ?_
  refine snil ?_
  refine f_seq ?_
  refine f_seq ?_
  refine f_region ?_
  refine scons (CStep.step (PStep.c (p_loadBS rfl wBet5_agg39 wBet5_siz39 (Sees.of rfl) rfl rfl rfl)) rfl rfl rfl rfl) ?_
  refine scons (CStep.step (PStep.c (p_loadBS rfl wBet5_agg39 wBet5_siz39 (Sees.of rfl) rfl rfl rfl)) rfl rfl rfl rfl) ?_
  refine scons (CStep.step (c_call rfl wBet5_isf32 ⟨_, _, rfl, (Sees.of rfl), rfl, ⟨_, _, rfl, (Sees.of rfl), rfl, rfl⟩⟩ (wide_spec n a m b)) rfl rfl rfl rfl) ?_
  refine scons (CStep.step (PStep.c (p_move (y := .val _) rfl (Sees.of rfl) rfl)) rfl rfl rfl rfl) ?_
  refine scons (CStep.guard rfl rfl rfl (fun hg0 => PStep.c (p_move (y := .val _) rfl (Sees.of rfl) rfl)) rfl rfl rfl rfl rfl) ?_
  refine scons (CStep.guard rfl rfl rfl (fun hg0 => PStep.c (p_len rfl wBet5_isl63 (Sees.gv' rfl hg0))) rfl rfl rfl rfl rfl) ?_
  refine scons (CStep.guard rfl rfl rfl (fun hg0 => PStep.c (p_gtr rfl (Sees.gv' rfl hg0) (Sees.of rfl))) rfl rfl rfl rfl rfl) ?_
  refine scons (CStep.guard rfl rfl rfl (fun hg0 => PStep.c (p_move (y := .val _) rfl (Sees.gv' rfl hg0) rfl)) rfl rfl rfl rfl rfl) ?_
  refine scons (CStep.guard2 rfl rfl rfl (fun hg1 hg0 => PStep.c (p_move (y := .val _) rfl (Sees.of rfl) rfl)) rfl rfl rfl rfl rfl) ?_
  refine scons (CStep.guard2 rfl rfl rfl (fun hg1 hg0 => PStep.c (p_len rfl wBet5_isl63 (Sees.gv' rfl (and_true_of hg1 hg0)))) rfl rfl rfl rfl rfl) ?_
  refine scons (CStep.guard2 rfl rfl rfl (fun hg1 hg0 => PStep.c (p_leq rfl (Sees.gv' rfl (and_true_of hg1 hg0)) (Sees.of rfl))) rfl rfl rfl rfl rfl) ?_
  refine scons (CStep.guard rfl rfl rfl (fun hg0 => PStep.c (p_and rfl (Sees.gv' rfl hg0) (fun h => Sees.gv' rfl (and_true_of hg0 (beq_of_eq h))) (Sees.of rfl))) rfl rfl rfl rfl rfl) ?_
  refine scons (CStep.step (PStep.c (p_or rfl (Sees.of rfl) (Sees.of rfl) (fun h => Sees.gv' rfl (beq_of_eq h)))) rfl rfl rfl rfl) ?_
  refine snil ?_
  refine f_cond rfl ?_ ?_
  · intro hc1
    try simp only [bs] at hc1
    refine f_seq ?_
    refine f_region ?_
    refine scons (CStep.step (PStep.c (p_assign (y := .val _) rfl (Sees.of rfl) rfl)) rfl rfl rfl rfl) ?_
    refine snil ?_
    refine f_ret ?_
    refine ends_ret (res_eq (res1 rfl (res_tmp rfl (Sees.of rfl))) ?_)
    rfl
  · intro hc1
    try simp only [bs] at hc1
    refine f_skip ?_
    refine f_seq ?_
    refine f_region ?_
    refine scons (CStep.step (PStep.c (p_loadBS rfl wBet5_agg39 wBet5_siz39 (Sees.of rfl) rfl rfl rfl)) rfl rfl rfl rfl) ?_
    refine scons (CStep.step (PStep.c (p_loadBS rfl wBet5_agg39 wBet5_siz39 (Sees.of rfl) rfl rfl rfl)) rfl rfl rfl rfl) ?_
    refine scons (CStep.step (PStep.c (p_move (y := .val _) rfl (Sees.of rfl) rfl)) rfl rfl rfl rfl) ?_
    refine scons (CStep.step (c_call rfl wBet5_isf33 ⟨_, _, rfl, (Sees.of rfl), rfl, ⟨_, _, rfl, (Sees.of rfl), rfl, ⟨_, _, rfl, (Sees.of rfl), rfl, rfl⟩⟩⟩ (Take_spec n a m b l)) rfl rfl rfl rfl) ?_
    refine scons (CStep.step (PStep.c (p_move (y := .val _) rfl (Sees.of rfl) rfl)) rfl rfl rfl rfl) ?_
    refine scons (CStep.step (PStep.c (p_extract rfl (Sees.of rfl) rfl)) rfl rfl rfl rfl) ?_
    refine scons (CStep.step (PStep.c (p_extract rfl (Sees.of rfl) rfl)) rfl rfl rfl rfl) ?_
    refine scons (r_alloc (ob := 10007) rfl wBet5_zer67 rfl rfl rfl rfl rfl rfl) ?_
    refine scons (r_alloc (ob := 10008) rfl wBet5_zer26 rfl rfl rfl rfl rfl rfl) ?_
    refine scons (r_storeS rfl wBet5_siz67 rfl rfl rfl (Sees.of rfl) rfl (Sees.of rfl) rfl rfl rfl rfl) ?_
    refine scons (r_storeS rfl wBet5_siz26 rfl rfl rfl (Sees.of rfl) rfl (Sees.of rfl) rfl rfl rfl rfl) ?_
    refine snil ?_
    refine f_seq ?_
    refine f_region ?_
    refine scons (CStep.step (PStep.c (p_loadBS rfl wBet5_agg39 wBet5_siz39 (Sees.of rfl) rfl rfl rfl)) rfl rfl rfl rfl) ?_
    refine scons (CStep.step (PStep.c (p_loadBS rfl wBet5_agg39 wBet5_siz39 (Sees.of rfl) rfl rfl rfl)) rfl rfl rfl rfl) ?_
    refine scons (CStep.step (PStep.c (p_move (y := .val _) rfl (Sees.of rfl) rfl)) rfl rfl rfl rfl) ?_
    refine scons (CStep.step (c_call rfl wBet5_isf34 ⟨_, _, rfl, (Sees.of rfl), rfl, ⟨_, _, rfl, (Sees.of rfl), rfl, ⟨_, _, rfl, (Sees.of rfl), rfl, rfl⟩⟩⟩ (proofFault_spec n a m b l)) rfl rfl rfl rfl) ?_
    refine scons (r_alloc (ob := 10009) rfl wBet5_zer26 rfl rfl rfl rfl rfl rfl) ?_
    refine scons (r_storeS rfl wBet5_siz26 rfl rfl rfl (Sees.of rfl) rfl (Sees.of rfl) rfl rfl rfl rfl) ?_
    refine snil ?_
    refine f_seq ?_
    refine f_seq ?_
    refine f_region ?_
    refine scons (CStep.step (PStep.c (p_fieldRef rfl wBet5_fld26_0 wBet5_siz3 rfl (Sees.of rfl) rfl)) rfl rfl rfl rfl) ?_
    refine scons (CStep.step (PStep.c (p_loadB (y := .val _) rfl wBet5_agg3 (Sees.of rfl) rfl rfl rfl rfl)) rfl rfl rfl rfl) ?_
    refine scons (CStep.step (PStep.c (p_neq rfl (Sees.of rfl) (Sees.of rfl))) rfl rfl rfl rfl) ?_
    refine snil ?_
    refine f_cond rfl ?_ ?_
    · intro hc2
      try simp only [bs] at hc2
      refine f_seq ?_
      refine f_region ?_
      refine scons (CStep.step (PStep.c (p_loadBS rfl wBet5_agg26 wBet5_siz26 (Sees.of rfl) rfl rfl rfl)) rfl rfl rfl rfl) ?_
      refine scons (CStep.step (PStep.c (p_loadBS rfl wBet5_agg26 wBet5_siz26 (Sees.of rfl) rfl rfl rfl)) rfl rfl rfl rfl) ?_
      refine scons (CStep.step (PStep.c (p_eqlS2 rfl wBet5_eq226 (Sees.of rfl) (Sees.of rfl))) rfl rfl rfl rfl) ?_
      refine scons (CStep.step (PStep.c (p_move (y := .val _) rfl (Sees.of rfl) rfl)) rfl rfl rfl rfl) ?_
      refine scons (CStep.guard rfl rfl rfl (fun hg0 => PStep.c (p_loadBS rfl wBet5_agg67 wBet5_siz67 (Sees.of rfl) rfl rfl rfl)) rfl rfl rfl rfl rfl) ?_
      refine scons (CStep.guard rfl rfl rfl (fun hg0 => c_call rfl wBet5_isf35 ⟨_, _, rfl, (Sees.gv' rfl hg0), rfl, rfl⟩ (DiaNone_spec _ _)) rfl rfl rfl rfl rfl) ?_
      refine scons (CStep.step (PStep.c (p_and rfl (Sees.of rfl) (fun h => Sees.gv' rfl (beq_of_eq h)) (Sees.of rfl))) rfl rfl rfl rfl) ?_
      refine scons (CStep.step (PStep.c (p_move (y := .val _) rfl (Sees.of rfl) rfl)) rfl rfl rfl rfl) ?_
      refine scons (CStep.guard rfl rfl rfl (fun hg0 => c_call rfl wBet5_isf36 rfl (betweenSure_spec)) rfl rfl rfl rfl rfl) ?_
      refine scons (CStep.step (PStep.c (p_and rfl (Sees.of rfl) (fun h => Sees.gv' rfl (beq_of_eq h)) (Sees.of rfl))) rfl rfl rfl rfl) ?_
      refine scons (CStep.step (PStep.c (p_assign (y := .val _) rfl (Sees.of rfl) rfl)) rfl rfl rfl rfl) ?_
      refine snil ?_
      refine f_ret ?_
      refine ends_ret (res_eq (res1 rfl (res_tmp rfl (Sees.of rfl))) ?_)
      rw [Sp.tak_bad hc2]
      simp
    · intro hc2
      try simp only [bs] at hc2
      obtain ⟨k, rfl, rfl, hpf⟩ := Sp.prf_of hc2
      have hw : (k : Int) ≤ 8 := by omega
      refine f_skip ?_
      refine f_seq ?_
      refine f_draw wBet5_mix (by kernel_rfl) ?_
      refine dcons (CStep.step (PStep.c (p_loadBS rfl wBet5_agg26 wBet5_siz26 (Sees.of rfl) rfl rfl rfl)) rfl rfl rfl rfl) ?_
      refine dcons (CStep.step (PStep.c (p_loadBS rfl wBet5_agg26 wBet5_siz26 (Sees.of rfl) rfl rfl rfl)) rfl rfl rfl rfl) ?_
      refine dcons (CStep.step (PStep.c (p_eqlS2 rfl wBet5_eq226 (Sees.of rfl) (Sees.of rfl))) rfl rfl rfl rfl) ?_
      refine dcons (CStep.step (PStep.c (p_move (y := .val _) rfl (Sees.of rfl) rfl)) rfl rfl rfl rfl) ?_
      refine dcons (CStep.guard rfl rfl rfl (fun hg0 => PStep.c (p_loadBS rfl wBet5_agg67 wBet5_siz67 (Sees.of rfl) rfl rfl rfl)) rfl rfl rfl rfl rfl) ?_
      refine dcons (CStep.guard rfl rfl rfl (fun hg0 => PStep.c (p_loadBS rfl wBet5_agg39 wBet5_siz39 (Sees.of rfl) rfl rfl rfl)) rfl rfl rfl rfl rfl) ?_
      refine dcons (CStep.guard rfl rfl rfl (fun hg0 => PStep.c (p_loadBS rfl wBet5_agg39 wBet5_siz39 (Sees.of rfl) rfl rfl rfl)) rfl rfl rfl rfl rfl) ?_
      refine dcons (CStep.guard rfl rfl rfl (fun hg0 => PStep.c (p_move (y := .val _) rfl (Sees.of rfl) rfl)) rfl rfl rfl rfl rfl) ?_
      refine dcons (CStep.guard rfl rfl rfl (fun hg0 => by have hp0 := hg0; (try simp only [bs] at hp0); exact c_call rfl wBet5_isf38 ⟨_, _, rfl, (Sees.gv' rfl hg0), rfl, ⟨_, _, rfl, (Sees.gv' rfl hg0), rfl, ⟨_, _, rfl, (Sees.gv' rfl hg0), rfl, ⟨_, _, rfl, (Sees.of rfl), rfl, rfl⟩⟩⟩⟩ (told_spec false k a b l hpf (by omega))) rfl rfl rfl rfl rfl) ?_
      refine dcons (CStep.guard rfl rfl rfl (fun hg0 => c_call rfl wBet5_isf37 ⟨_, _, rfl, (Sees.gv' rfl hg0), rfl, ⟨_, _, rfl, (Sees.gv' rfl hg0), rfl, rfl⟩⟩ (DiaSame_spec _ _ _ _)) rfl rfl rfl rfl rfl) ?_
      refine dcons (CStep.step (PStep.c (p_and rfl (Sees.of rfl) (fun h => Sees.gv' rfl (beq_of_eq h)) (Sees.of rfl))) rfl rfl rfl rfl) ?_
      refine dcons (CStep.step (PStep.c (p_move (y := .val _) rfl (Sees.of rfl) rfl)) rfl rfl rfl rfl) ?_
      refine dcons (CStep.guard rfl rfl rfl (fun hg0 => c_call rfl wBet5_isf36 rfl (betweenSure_spec)) rfl rfl rfl rfl rfl) ?_
      refine dcons (CStep.step (PStep.c (p_and rfl (Sees.of rfl) (fun h => Sees.gv' rfl (beq_of_eq h)) (Sees.of rfl))) rfl rfl rfl rfl) ?_
      refine dcons (CStep.step (PStep.c (p_assign (y := .val _) rfl (Sees.of rfl) rfl)) rfl rfl rfl rfl) ?_
      refine dnil (by kernel_rfl) ?_
      refine f_ret ?_
      refine ends_ret (res_eq (res1 rfl (res_tmp rfl (Sees.of rfl))) ?_)
      have htg := Sp.tak_good (e := false) hc2
      rw [htg.1, htg.2, Int.toNat_natCast, Sp.built_few (by omega)]
      simp

theorem BetweenEvens_spec (n : Int) (a : List (List Int)) (m : Int) (b : List (List Int)) (l : List Sp.Rs) :
    Spec Go.Proofs.Try.prog 11 [.val (cnf n a), .val (cnf m b), .val (chos l)] (D.bool true) := by
  refine spec_of' Go.Proofs.Try.func11 rfl Go.Proofs.Try.ntmps11 rfl ?_
  refine f_seq ?_
  refine f_region ?_
  refine scons (r_box (ob := 10003) rfl (Sees.of rfl) rfl rfl rfl rfl rfl rfl) ?_
  refine scons (r_box (ob := 10004) rfl (Sees.of rfl) rfl rfl rfl rfl rfl rfl) ?_
  refine scons (CStep.step (PStep.c (p_assign (y := .val _) rfl (Sees.of rfl) rfl)) rfl rfl rfl rfl) ?_
  refine snil ?_
  refine f_seq ?_
  refine f_seq ?_
  refine f_region ?_
  refine scons (CStep.step (PStep.c (p_loadBS rfl wBet5_agg39 wBet5_siz39 (Sees.of rfl) rfl rfl rfl)) rfl rfl rfl rfl) ?_
  refine scons (CStep.step (PStep.c (p_loadBS rfl wBet5_agg39 wBet5_siz39 (Sees.of rfl) rfl rfl rfl)) rfl rfl rfl rfl) ?_
  refine scons (CStep.step (c_call rfl wBet5_isf32 ⟨_, _, rfl, (Sees.of rfl), rfl, ⟨_, _, rfl, (Sees.of rfl), rfl, rfl⟩⟩ (wide_spec n a m b)) rfl rfl rfl rfl) ?_
  refine scons (CStep.step (PStep.c (p_move (y := .val _) rfl (Sees.of rfl) rfl)) rfl rfl rfl rfl) ?_
  refine scons (CStep.guard rfl rfl rfl (fun hg0 => PStep.c (p_move (y := .val _) rfl (Sees.of rfl) rfl)) rfl rfl rfl rfl rfl) ?_
  refine scons (CStep.guard rfl rfl rfl (fun hg0 => PStep.c (p_len rfl wBet5_isl63 (Sees.gv' rfl hg0))) rfl rfl rfl rfl rfl) ?_
  refine scons (CStep.guard rfl rfl rfl (fun hg0 => PStep.c (p_gtr rfl (Sees.gv' rfl hg0) (Sees.of rfl))) rfl rfl rfl rfl rfl) ?_
  refine scons (CStep.guard rfl rfl rfl (fun hg0 => PStep.c (p_move (y := .val _) rfl (Sees.gv' rfl hg0) rfl)) rfl rfl rfl rfl rfl) ?_
  refine scons (CStep.guard2 rfl rfl rfl (fun hg1 hg0 => PStep.c (p_move (y := .val _) rfl (Sees.of rfl) rfl)) rfl rfl rfl rfl rfl) ?_
  refine scons (CStep.guard2 rfl rfl rfl (fun hg1 hg0 => PStep.c (p_len rfl wBet5_isl63 (Sees.gv' rfl (and_true_of hg1 hg0)))) rfl rfl rfl rfl rfl) ?_
  refine scons (CStep.guard2 rfl rfl rfl (fun hg1 hg0 => PStep.c (p_leq rfl (Sees.gv' rfl (and_true_of hg1 hg0)) (Sees.of rfl))) rfl rfl rfl rfl rfl) ?_
  refine scons (CStep.guard rfl rfl rfl (fun hg0 => PStep.c (p_and rfl (Sees.gv' rfl hg0) (fun h => Sees.gv' rfl (and_true_of hg0 (beq_of_eq h))) (Sees.of rfl))) rfl rfl rfl rfl rfl) ?_
  refine scons (CStep.step (PStep.c (p_or rfl (Sees.of rfl) (Sees.of rfl) (fun h => Sees.gv' rfl (beq_of_eq h)))) rfl rfl rfl rfl) ?_
  refine snil ?_
  refine f_cond rfl ?_ ?_
  · intro hc1
    try simp only [bs] at hc1
    refine f_seq ?_
    refine f_region ?_
    refine scons (CStep.step (PStep.c (p_assign (y := .val _) rfl (Sees.of rfl) rfl)) rfl rfl rfl rfl) ?_
    refine snil ?_
    refine f_ret ?_
    refine ends_ret (res_eq (res1 rfl (res_tmp rfl (Sees.of rfl))) ?_)
    rfl
  · intro hc1
    try simp only [bs] at hc1
    refine f_skip ?_
    refine f_seq ?_
    refine f_region ?_
    refine scons (CStep.step (PStep.c (p_loadBS rfl wBet5_agg39 wBet5_siz39 (Sees.of rfl) rfl rfl rfl)) rfl rfl rfl rfl) ?_
    refine scons (CStep.step (PStep.c (p_loadBS rfl wBet5_agg39 wBet5_siz39 (Sees.of rfl) rfl rfl rfl)) rfl rfl rfl rfl) ?_
    refine scons (CStep.step (PStep.c (p_move (y := .val _) rfl (Sees.of rfl) rfl)) rfl rfl rfl rfl) ?_
    refine scons (CStep.step (c_call rfl wBet5_isf39 ⟨_, _, rfl, (Sees.of rfl), rfl, ⟨_, _, rfl, (Sees.of rfl), rfl, ⟨_, _, rfl, (Sees.of rfl), rfl, rfl⟩⟩⟩ (Even_spec n a m b l)) rfl rfl rfl rfl) ?_
    refine scons (CStep.step (PStep.c (p_move (y := .val _) rfl (Sees.of rfl) rfl)) rfl rfl rfl rfl) ?_
    refine scons (CStep.step (PStep.c (p_extract rfl (Sees.of rfl) rfl)) rfl rfl rfl rfl) ?_
    refine scons (CStep.step (PStep.c (p_extract rfl (Sees.of rfl) rfl)) rfl rfl rfl rfl) ?_
    refine scons (r_alloc (ob := 10007) rfl wBet5_zer67 rfl rfl rfl rfl rfl rfl) ?_
    refine scons (r_alloc (ob := 10008) rfl wBet5_zer26 rfl rfl rfl rfl rfl rfl) ?_
    refine scons (r_storeS rfl wBet5_siz67 rfl rfl rfl (Sees.of rfl) rfl (Sees.of rfl) rfl rfl rfl rfl) ?_
    refine scons (r_storeS rfl wBet5_siz26 rfl rfl rfl (Sees.of rfl) rfl (Sees.of rfl) rfl rfl rfl rfl) ?_
    refine snil ?_
    refine f_seq ?_
    refine f_region ?_
    refine scons (CStep.step (PStep.c (p_loadBS rfl wBet5_agg39 wBet5_siz39 (Sees.of rfl) rfl rfl rfl)) rfl rfl rfl rfl) ?_
    refine scons (CStep.step (PStep.c (p_loadBS rfl wBet5_agg39 wBet5_siz39 (Sees.of rfl) rfl rfl rfl)) rfl rfl rfl rfl) ?_
    refine scons (CStep.step (PStep.c (p_move (y := .val _) rfl (Sees.of rfl) rfl)) rfl rfl rfl rfl) ?_
    refine scons (CStep.step (c_call rfl wBet5_isf34 ⟨_, _, rfl, (Sees.of rfl), rfl, ⟨_, _, rfl, (Sees.of rfl), rfl, ⟨_, _, rfl, (Sees.of rfl), rfl, rfl⟩⟩⟩ (proofFault_spec n a m b l)) rfl rfl rfl rfl) ?_
    refine scons (r_alloc (ob := 10009) rfl wBet5_zer26 rfl rfl rfl rfl rfl rfl) ?_
    refine scons (r_storeS rfl wBet5_siz26 rfl rfl rfl (Sees.of rfl) rfl (Sees.of rfl) rfl rfl rfl rfl) ?_
    refine snil ?_
    refine f_seq ?_
    refine f_seq ?_
    refine f_region ?_
    refine scons (CStep.step (PStep.c (p_fieldRef rfl wBet5_fld26_0 wBet5_siz3 rfl (Sees.of rfl) rfl)) rfl rfl rfl rfl) ?_
    refine scons (CStep.step (PStep.c (p_loadB (y := .val _) rfl wBet5_agg3 (Sees.of rfl) rfl rfl rfl rfl)) rfl rfl rfl rfl) ?_
    refine scons (CStep.step (PStep.c (p_neq rfl (Sees.of rfl) (Sees.of rfl))) rfl rfl rfl rfl) ?_
    refine snil ?_
    refine f_cond rfl ?_ ?_
    · intro hc2
      try simp only [bs] at hc2
      refine f_seq ?_
      refine f_region ?_
      refine scons (CStep.step (PStep.c (p_loadBS rfl wBet5_agg26 wBet5_siz26 (Sees.of rfl) rfl rfl rfl)) rfl rfl rfl rfl) ?_
      refine scons (CStep.step (PStep.c (p_loadBS rfl wBet5_agg26 wBet5_siz26 (Sees.of rfl) rfl rfl rfl)) rfl rfl rfl rfl) ?_
      refine scons (CStep.step (PStep.c (p_eqlS2 rfl wBet5_eq226 (Sees.of rfl) (Sees.of rfl))) rfl rfl rfl rfl) ?_
      refine scons (CStep.step (PStep.c (p_move (y := .val _) rfl (Sees.of rfl) rfl)) rfl rfl rfl rfl) ?_
      refine scons (CStep.guard rfl rfl rfl (fun hg0 => PStep.c (p_loadBS rfl wBet5_agg67 wBet5_siz67 (Sees.of rfl) rfl rfl rfl)) rfl rfl rfl rfl rfl) ?_
      refine scons (CStep.guard rfl rfl rfl (fun hg0 => c_call rfl wBet5_isf35 ⟨_, _, rfl, (Sees.gv' rfl hg0), rfl, rfl⟩ (DiaNone_spec _ _)) rfl rfl rfl rfl rfl) ?_
      refine scons (CStep.step (PStep.c (p_and rfl (Sees.of rfl) (fun h => Sees.gv' rfl (beq_of_eq h)) (Sees.of rfl))) rfl rfl rfl rfl) ?_
      refine scons (CStep.step (PStep.c (p_move (y := .val _) rfl (Sees.of rfl) rfl)) rfl rfl rfl rfl) ?_
      refine scons (CStep.guard rfl rfl rfl (fun hg0 => c_call rfl wBet5_isf36 rfl (betweenSure_spec)) rfl rfl rfl rfl rfl) ?_
      refine scons (CStep.step (PStep.c (p_and rfl (Sees.of rfl) (fun h => Sees.gv' rfl (beq_of_eq h)) (Sees.of rfl))) rfl rfl rfl rfl) ?_
      refine scons (CStep.step (PStep.c (p_assign (y := .val _) rfl (Sees.of rfl) rfl)) rfl rfl rfl rfl) ?_
      refine snil ?_
      refine f_ret ?_
      refine ends_ret (res_eq (res1 rfl (res_tmp rfl (Sees.of rfl))) ?_)
      rw [Sp.tak_bad hc2]
      simp
    · intro hc2
      try simp only [bs] at hc2
      obtain ⟨k, rfl, rfl, hpf⟩ := Sp.prf_of hc2
      have hw : (k : Int) ≤ 8 := by omega
      refine f_skip ?_
      refine f_seq ?_
      refine f_draw wBet5_mix (by kernel_rfl) ?_
      refine dcons (CStep.step (PStep.c (p_loadBS rfl wBet5_agg26 wBet5_siz26 (Sees.of rfl) rfl rfl rfl)) rfl rfl rfl rfl) ?_
      refine dcons (CStep.step (PStep.c (p_loadBS rfl wBet5_agg26 wBet5_siz26 (Sees.of rfl) rfl rfl rfl)) rfl rfl rfl rfl) ?_
      refine dcons (CStep.step (PStep.c (p_eqlS2 rfl wBet5_eq226 (Sees.of rfl) (Sees.of rfl))) rfl rfl rfl rfl) ?_
      refine dcons (CStep.step (PStep.c (p_move (y := .val _) rfl (Sees.of rfl) rfl)) rfl rfl rfl rfl) ?_
      refine dcons (CStep.guard rfl rfl rfl (fun hg0 => PStep.c (p_loadBS rfl wBet5_agg67 wBet5_siz67 (Sees.of rfl) rfl rfl rfl)) rfl rfl rfl rfl rfl) ?_
      refine dcons (CStep.guard rfl rfl rfl (fun hg0 => PStep.c (p_loadBS rfl wBet5_agg39 wBet5_siz39 (Sees.of rfl) rfl rfl rfl)) rfl rfl rfl rfl rfl) ?_
      refine dcons (CStep.guard rfl rfl rfl (fun hg0 => PStep.c (p_loadBS rfl wBet5_agg39 wBet5_siz39 (Sees.of rfl) rfl rfl rfl)) rfl rfl rfl rfl rfl) ?_
      refine dcons (CStep.guard rfl rfl rfl (fun hg0 => PStep.c (p_move (y := .val _) rfl (Sees.of rfl) rfl)) rfl rfl rfl rfl rfl) ?_
      refine dcons (CStep.guard rfl rfl rfl (fun hg0 => by have hp0 := hg0; (try simp only [bs] at hp0); exact c_call rfl wBet5_isf38 ⟨_, _, rfl, (Sees.gv' rfl hg0), rfl, ⟨_, _, rfl, (Sees.gv' rfl hg0), rfl, ⟨_, _, rfl, (Sees.gv' rfl hg0), rfl, ⟨_, _, rfl, (Sees.of rfl), rfl, rfl⟩⟩⟩⟩ (told_spec true k a b l hpf (by omega))) rfl rfl rfl rfl rfl) ?_
      refine dcons (CStep.guard rfl rfl rfl (fun hg0 => c_call rfl wBet5_isf37 ⟨_, _, rfl, (Sees.gv' rfl hg0), rfl, ⟨_, _, rfl, (Sees.gv' rfl hg0), rfl, rfl⟩⟩ (DiaSame_spec _ _ _ _)) rfl rfl rfl rfl rfl) ?_
      refine dcons (CStep.step (PStep.c (p_and rfl (Sees.of rfl) (fun h => Sees.gv' rfl (beq_of_eq h)) (Sees.of rfl))) rfl rfl rfl rfl) ?_
      refine dcons (CStep.step (PStep.c (p_move (y := .val _) rfl (Sees.of rfl) rfl)) rfl rfl rfl rfl) ?_
      refine dcons (CStep.guard rfl rfl rfl (fun hg0 => c_call rfl wBet5_isf36 rfl (betweenSure_spec)) rfl rfl rfl rfl rfl) ?_
      refine dcons (CStep.step (PStep.c (p_and rfl (Sees.of rfl) (fun h => Sees.gv' rfl (beq_of_eq h)) (Sees.of rfl))) rfl rfl rfl rfl) ?_
      refine dcons (CStep.step (PStep.c (p_assign (y := .val _) rfl (Sees.of rfl) rfl)) rfl rfl rfl rfl) ?_
      refine dnil (by kernel_rfl) ?_
      refine f_ret ?_
      refine ends_ret (res_eq (res1 rfl (res_tmp rfl (Sees.of rfl))) ?_)
      have htg := Sp.tak_good (e := true) hc2
      rw [htg.1, htg.2, Int.toNat_natCast, Sp.built_few (by omega)]
      simp

end Go.Um
