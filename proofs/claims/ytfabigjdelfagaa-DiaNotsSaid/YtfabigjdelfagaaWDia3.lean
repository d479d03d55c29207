/- Walks of Go functions of this seat, each by its contract. No condition beyond what each theorem says. -/
import Derived.Test.YtfabigjdelfagaaWDia2
import Derived.Test.YtfabigjdelfagaaSpA
import Derived.Test.YtfabigjdelfagaaProg
import Derived.KernelRfl
set_option maxRecDepth 4000
namespace Go.Um
open Go Go.RowKit

theorem wDia3_agg116 : IsAgg Go.Proofs.Try.prog 116 false := by unfold IsAgg; kernel_rfl
theorem wDia3_agg117 : IsAgg Go.Proofs.Try.prog 117 false := by unfold IsAgg; kernel_rfl
theorem wDia3_agg22 : IsAgg Go.Proofs.Try.prog 22 false := by unfold IsAgg; kernel_rfl
theorem wDia3_agg24 : IsAgg Go.Proofs.Try.prog 24 true := by unfold IsAgg; kernel_rfl
theorem wDia3_agg28 : IsAgg Go.Proofs.Try.prog 28 true := by unfold IsAgg; kernel_rfl
theorem wDia3_agg3 : IsAgg Go.Proofs.Try.prog 3 false := by unfold IsAgg; kernel_rfl
theorem wDia3_agg39 : IsAgg Go.Proofs.Try.prog 39 false := by unfold IsAgg; kernel_rfl
theorem wDia3_agg4 : IsAgg Go.Proofs.Try.prog 4 false := by unfold IsAgg; kernel_rfl
theorem wDia3_agg41 : IsAgg Go.Proofs.Try.prog 41 true := by unfold IsAgg; kernel_rfl
theorem wDia3_agg5 : IsAgg Go.Proofs.Try.prog 5 false := by unfold IsAgg; kernel_rfl
theorem wDia3_agg96 : IsAgg Go.Proofs.Try.prog 96 true := by unfold IsAgg; kernel_rfl
theorem wDia3_byt96 : Bytes Go.Proofs.Try.prog 96 24 := by unfold Bytes; kernel_rfl
theorem wDia3_eq396 : Eq3 Go.Proofs.Try.prog 96 := ⟨_, _, _, Go.Proofs.Try.underlying96, by decide, by decide, by decide, rfl, rfl, rfl, Go.Proofs.Try.underlying3, Go.Proofs.Try.underlying3, Go.Proofs.Try.underlying3, by kernel_rfl, by kernel_rfl⟩
theorem wDia3_fld119_0 : IsField Go.Proofs.Try.prog 119 0 0 39 := by unfold IsField; kernel_rfl
theorem wDia3_fld119_1 : IsField Go.Proofs.Try.prog 119 1 1 116 := by unfold IsField; kernel_rfl
theorem wDia3_fld119_2 : IsField Go.Proofs.Try.prog 119 2 2 117 := by unfold IsField; kernel_rfl
theorem wDia3_fld24_0 : IsField Go.Proofs.Try.prog 24 0 0 3 := by unfold IsField; kernel_rfl
theorem wDia3_fld24_1 : IsField Go.Proofs.Try.prog 24 1 1 22 := by unfold IsField; kernel_rfl
theorem wDia3_fld28_0 : IsField Go.Proofs.Try.prog 28 0 0 3 := by unfold IsField; kernel_rfl
theorem wDia3_fld41_0 : IsField Go.Proofs.Try.prog 41 0 0 39 := by unfold IsField; kernel_rfl
theorem wDia3_fld41_1 : IsField Go.Proofs.Try.prog 41 1 1 3 := by unfold IsField; kernel_rfl
theorem wDia3_fld96_1 : IsField Go.Proofs.Try.prog 96 1 1 3 := by unfold IsField; kernel_rfl
theorem wDia3_fld96_2 : IsField Go.Proofs.Try.prog 96 2 2 3 := by unfold IsField; kernel_rfl
theorem wDia3_int3 : IsInt Go.Proofs.Try.prog 3 .i64 := by unfold IsInt; kernel_rfl
theorem wDia3_int5 : IsInt Go.Proofs.Try.prog 5 .u8 := by unfold IsInt; kernel_rfl
theorem wDia3_isf22 : IsFn Go.Proofs.Try.prog 22 := by unfold IsFn; kernel_rfl
theorem wDia3_isf26 : IsFn Go.Proofs.Try.prog 26 := by unfold IsFn; kernel_rfl
theorem wDia3_isf50 : IsFn Go.Proofs.Try.prog 50 := by unfold IsFn; kernel_rfl
theorem wDia3_isf51 : IsFn Go.Proofs.Try.prog 51 := by unfold IsFn; kernel_rfl
theorem wDia3_isf52 : IsFn Go.Proofs.Try.prog 52 := by unfold IsFn; kernel_rfl
theorem wDia3_isf53 : IsFn Go.Proofs.Try.prog 53 := by unfold IsFn; kernel_rfl
theorem wDia3_isf54 : IsFn Go.Proofs.Try.prog 54 := by unfold IsFn; kernel_rfl
theorem wDia3_isf55 : IsFn Go.Proofs.Try.prog 55 := by unfold IsFn; kernel_rfl
theorem wDia3_isf57 : IsFn Go.Proofs.Try.prog 57 := by unfold IsFn; kernel_rfl
theorem wDia3_isf58 : IsFn Go.Proofs.Try.prog 58 := by unfold IsFn; kernel_rfl
theorem wDia3_isf79 : IsFn Go.Proofs.Try.prog 79 := by unfold IsFn; kernel_rfl
theorem wDia3_isl22 : IsSlice Go.Proofs.Try.prog 22 32 := by unfold IsSlice; kernel_rfl
theorem wDia3_isl32 : IsSlice Go.Proofs.Try.prog 32 3 := by unfold IsSlice; kernel_rfl
theorem wDia3_isl39 : IsSlice Go.Proofs.Try.prog 39 96 := by unfold IsSlice; kernel_rfl
theorem wDia3_isl45 : IsSlice Go.Proofs.Try.prog 45 4 := by unfold IsSlice; kernel_rfl
theorem wDia3_isl91 : IsSlice Go.Proofs.Try.prog 91 5 := by unfold IsSlice; kernel_rfl
theorem wDia3_mix : (Go.Proofs.Try.prog).follows .mixedOrders = true := by kernel_rfl
theorem wDia3_mty116 : MapTy Go.Proofs.Try.prog 116 96 3 vCho dCho vInt di 0 := mapTy_cho (by kernel_rfl) ⟨_, _, _, Go.Proofs.Try.underlying96, by decide, by decide, by decide, rfl, rfl, rfl, Go.Proofs.Try.underlying3, Go.Proofs.Try.underlying3, Go.Proofs.Try.underlying3, by kernel_rfl, by kernel_rfl⟩ (by unfold Zero; kernel_rfl) (fun a _ _ => val_int a) (fun a _ _ v h => valr_int a v h) (fun _ => rfl)
theorem wDia3_mty117 : MapTy Go.Proofs.Try.prog 117 9 3 Value.string D.str vInt di 0 := mapTy_str (by kernel_rfl) Go.Proofs.Try.underlying9 (by unfold Zero; kernel_rfl) (fun a _ _ => val_int a) (fun a _ _ v h => valr_int a v h) (fun _ => rfl)
theorem wDia3_plc119 : Places Go.Proofs.Try.prog 119 [(0, 1), (1, 1), (2, 1)] := by unfold Places; kernel_rfl
theorem wDia3_plc24 : Places Go.Proofs.Try.prog 24 [(0, 1), (1, 1)] := by unfold Places; kernel_rfl
theorem wDia3_plc28 : Places Go.Proofs.Try.prog 28 [(0, 1), (1, 1)] := by unfold Places; kernel_rfl
theorem wDia3_plc41 : Places Go.Proofs.Try.prog 41 [(0, 1), (1, 1)] := by unfold Places; kernel_rfl
theorem wDia3_plc96 : Places Go.Proofs.Try.prog 96 [(0, 1), (1, 1), (2, 1)] := by unfold Places; kernel_rfl
theorem wDia3_siz116 : Size Go.Proofs.Try.prog 116 1 := by unfold Size; kernel_rfl
theorem wDia3_siz117 : Size Go.Proofs.Try.prog 117 1 := by unfold Size; kernel_rfl
theorem wDia3_siz22 : Size Go.Proofs.Try.prog 22 1 := by unfold Size; kernel_rfl
theorem wDia3_siz24 : Size Go.Proofs.Try.prog 24 2 := by unfold Size; kernel_rfl
theorem wDia3_siz28 : Size Go.Proofs.Try.prog 28 2 := by unfold Size; kernel_rfl
theorem wDia3_siz3 : Size Go.Proofs.Try.prog 3 1 := by unfold Size; kernel_rfl
theorem wDia3_siz32 : Size Go.Proofs.Try.prog 32 1 := by unfold Size; kernel_rfl
theorem wDia3_siz39 : Size Go.Proofs.Try.prog 39 1 := by unfold Size; kernel_rfl
theorem wDia3_siz4 : Size Go.Proofs.Try.prog 4 1 := by unfold Size; kernel_rfl
theorem wDia3_siz41 : Size Go.Proofs.Try.prog 41 2 := by unfold Size; kernel_rfl
theorem wDia3_siz5 : Size Go.Proofs.Try.prog 5 1 := by unfold Size; kernel_rfl
theorem wDia3_siz96 : Size Go.Proofs.Try.prog 96 3 := by unfold Size; kernel_rfl
def wDia3_z24 : D := .cons (.int .i64 0) (.cons (intss []) (.nil))
theorem wDia3_zch24 : ∀ (ok : Nat → Prop) (w : World), R Go.Proofs.Try.prog wDia3_z24 ok w (Value.cells (.agg #[(.int .i64 0), (.slice none 0 0)])).toList := fun _ _ => z_int (z_list (z_nil))
def wDia3_z28 : D := .cons (.int .i64 0) (.cons (.int .i64 0) (.nil))
theorem wDia3_zch28 : ∀ (ok : Nat → Prop) (w : World), R Go.Proofs.Try.prog wDia3_z28 ok w (Value.cells (.agg #[(.int .i64 0), (.int .i64 0)])).toList := fun _ _ => z_int (z_int (z_nil))
def wDia3_z41 : D := .cons (chos []) (.cons (.int .i64 0) (.nil))
theorem wDia3_zch41 : ∀ (ok : Nat → Prop) (w : World), R Go.Proofs.Try.prog wDia3_z41 ok w (Value.cells (.agg #[(.slice none 0 0), (.int .i64 0)])).toList := fun _ _ => z_list (z_int (z_nil))
def wDia3_z96 : D := .cons (.int .i64 0) (.cons (.int .i64 0) (.cons (.int .i64 0) (.nil)))
theorem wDia3_zch96 : ∀ (ok : Nat → Prop) (w : World), R Go.Proofs.Try.prog wDia3_z96 ok w (Value.cells (.agg #[(.int .i64 0), (.int .i64 0), (.int .i64 0)])).toList := fun _ _ => z_int (z_int (z_int (z_nil)))
theorem wDia3_zer119 : Zero Go.Proofs.Try.prog 119 (.agg #[(.slice none 0 0), (.map none), (.map none)]) := by unfold Zero; kernel_rfl
theorem wDia3_zer24 : Zero Go.Proofs.Try.prog 24 (.agg #[(.int .i64 0), (.slice none 0 0)]) := by unfold Zero; kernel_rfl
theorem wDia3_zer28 : Zero Go.Proofs.Try.prog 28 (.agg #[(.int .i64 0), (.int .i64 0)]) := by unfold Zero; kernel_rfl
theorem wDia3_zer3 : Zero Go.Proofs.Try.prog 3 (.int .i64 0) := by unfold Zero; kernel_rfl
theorem wDia3_zer32 : Zero Go.Proofs.Try.prog 32 (.slice none 0 0) := by unfold Zero; kernel_rfl
theorem wDia3_zer41 : Zero Go.Proofs.Try.prog 41 (.agg #[(.slice none 0 0), (.int .i64 0)]) := by unfold Zero; kernel_rfl
theorem wDia3_zer96 : Zero Go.Proofs.Try.prog 96 (.agg #[(.int .i64 0), (.int .i64 0), (.int .i64 0)]) := by unfold Zero; kernel_rfl

theorem node_spec (f k : Nat) (t : List Int) (v : Int) (L : List Sp.Cho) (sn : Sp.Seen) (res : Int × List Sp.Cho × Sp.Seen) (hmf : k < f) (ht : t.length = 2 ^ k) (hm : k ≤ 16) (h01 : ∀ x ∈ t, 0 ≤ x ∧ x ≤ 1) (hv : 0 ≤ v ∧ v + k ≤ 1000) (hL : L.length + 2 ^ k ≤ 1000000) (hres : Sp.nodeF k t v (L, sn) = res) :
    SpecB Go.Proofs.Try.prog 79 [.ref 30000 0 0, .val (bytes t), iv v] [(30000, .box 0 (.ccons (.row 30001 L.length) (.ccons (.row 30002 0) (.ccons (.row 30003 0) .cnil)))), (30001, .arr L.length 96 3 24 dCho (0, 0, 0) L), (30002, .mp 0 vCho vInt (Sp.knownOf L)), (30003, .mp 0 Value.string vInt sn)] (di res.1) [(30000, .box 0 (.ccons (.row 30001 res.2.1.length) (.ccons (.row 30002 0) (.ccons (.row 30003 0) .cnil)))), (30001, .arr res.2.1.length 96 3 24 dCho (0, 0, 0) res.2.1), (30002, .mp 0 vCho vInt (Sp.knownOf res.2.1)), (30003, .mp 0 Value.string vInt res.2.2)] := by
  induction f generalizing k t v L sn res with
  | zero => omega
  | succ f ih =>
    refine specB_of' Go.Proofs.Try.func79 rfl Go.Proofs.Try.ntmps79 rfl rfl rfl ?_
    refine f_seq ?_
    have hk16 := Sp.pow16 hm
    refine f_region ?_
    refine scons (CStep.step (PStep.c (p_assign (y := .val _) rfl (Sees.of rfl) rfl)) rfl rfl rfl rfl) ?_
    refine snil ?_
    refine f_seq ?_
    refine f_seq ?_
    refine f_region ?_
    refine scons (CStep.step (PStep.c (p_move (y := .val _) rfl (Sees.of rfl) rfl)) rfl rfl rfl rfl) ?_
    refine scons (CStep.step (PStep.c (p_len rfl wDia3_isl91 (Sees.of rfl))) rfl rfl rfl rfl) ?_
    refine scons (CStep.step (PStep.c (p_eql rfl (Sees.of rfl) (Sees.of rfl))) rfl rfl rfl rfl) ?_
    refine snil ?_
    refine f_cond rfl ?_ ?_
    · intro hc1
      try simp only [bs] at hc1
      refine f_seq ?_
      have h0 := h01 _ (Sp.getD_mem t 0 0 (by omega))
      have h0' := h01 _ (Sp.getD_mem t (0 : Int).toNat 0 (by simp; omega))
      refine f_region ?_
      refine scons (CStep.step (PStep.c (p_move (y := .val _) rfl (Sees.of rfl) rfl)) rfl rfl rfl rfl) ?_
      refine scons (CStep.step (PStep.c ((by first | exact p_indexN rfl wDia3_isl91 wDia3_siz5 (Sees.of rfl) (Sees.of rfl) (by omega) | exact p_index rfl wDia3_isl91 wDia3_siz5 (Sees.of rfl) (Sees.of rfl) (by omega) (by omega)))) rfl rfl rfl rfl) ?_
      refine scons (CStep.step (PStep.c (p_load rfl wDia3_agg5 (Sees.of rfl) rfl)) rfl rfl rfl rfl) ?_
      refine scons (CStep.step (PStep.c (p_conv64 rfl wDia3_int5 wDia3_int3 (Sees.of rfl) (by omega))) rfl rfl rfl rfl) ?_
      refine scons (CStep.step (PStep.c (p_assign (y := .val _) rfl (Sees.of rfl) rfl)) rfl rfl rfl rfl) ?_
      refine snil ?_
      refine f_ret ?_
      obtain rfl : k = 0 := by
        rcases Nat.eq_zero_or_pos k with h | h
        · exact h
        · have h3 : 2 ^ k = 1 := by omega
          have h4 := Nat.pow_lt_pow_right (a := 2) (by decide) h
          exact absurd h4 (by rw [h3]; decide)
      have e : Sp.nodeF 0 t v (L, sn) = (t.getD 0 0, (L, sn)) := rfl
      rw [hres] at e
      subst e
      refine endsB_ret (resB_eq (resB_tmp rfl rfl (Sees.of rfl)) ?_) ⟨rfl, rfl, rfl, rfl, rfl, trivial⟩ rfl
      rfl
    · intro hc1
      try simp only [bs] at hc1
      obtain ⟨m, rfl⟩ : ∃ q, k = q + 1 := ⟨k - 1, by
        rcases Nat.eq_zero_or_pos k with h | h
        · subst h; simp at ht; omega
        · omega⟩
      have hp : 2 ^ (m + 1) = 2 ^ m + 2 ^ m := by rw [Nat.pow_succ]; omega
      have hp1 : 1 ≤ 2 ^ m := Nat.one_le_two_pow
      refine f_skip ?_
      refine f_seq ?_
      refine f_seq ?_
      refine f_draw wDia3_mix (by kernel_rfl) ?_
      refine dcons (CStep.step (PStep.c (p_move (y := .ref _ _ _) rfl (Sees.of rfl) rfl)) rfl rfl rfl rfl) ?_
      refine dcons (CStep.step (PStep.c (p_nilRef rfl (Sees.of rfl) rfl)) rfl rfl rfl rfl) ?_
      refine dcons (CStep.step (PStep.c (p_fieldRef rfl wDia3_fld119_2 wDia3_siz117 rfl (Sees.of rfl) rfl)) rfl rfl rfl rfl) ?_
      refine dcons (CStep.step (PStep.c (p_loadB (y := .row _ _) rfl wDia3_agg117 (Sees.of rfl) rfl rfl rfl rfl)) rfl rfl rfl rfl) ?_
      refine dcons (CStep.step (PStep.c (p_move (y := .val _) rfl (Sees.of rfl) rfl)) rfl rfl rfl rfl) ?_
      refine dcons (CStep.step (PStep.c (p_bytesStr rfl wDia3_isl91 Go.Proofs.Try.underlying5 Go.Proofs.Try.underlying9 (Sees.of rfl))) rfl rfl rfl rfl) ?_
      refine dcons (CStep.step (PStep.c (p_lookOk rfl wDia3_mty117 (Sees.of rfl) rfl (Sees.of rfl))) rfl rfl rfl rfl) ?_
      refine dcons (CStep.step (PStep.c (p_move (y := .val _) rfl (Sees.of rfl) rfl)) rfl rfl rfl rfl) ?_
      refine dcons (CStep.step (PStep.c (p_extract rfl (Sees.of rfl) rfl)) rfl rfl rfl rfl) ?_
      refine dcons (CStep.step (PStep.c (p_extract rfl (Sees.of rfl) rfl)) rfl rfl rfl rfl) ?_
      refine dcons (CStep.step (PStep.c (p_assign (y := .val _) rfl (Sees.of rfl) rfl)) rfl rfl rfl rfl) ?_
      refine dcons (CStep.step (PStep.c (p_assign (y := .val _) rfl (Sees.of rfl) rfl)) rfl rfl rfl rfl) ?_
      refine dnil (by kernel_rfl) ?_
      refine f_seq ?_
      refine f_region ?_
      refine scons (CStep.step (PStep.c (p_move (y := .val _) rfl (Sees.of rfl) rfl)) rfl rfl rfl rfl) ?_
      refine snil ?_
      refine f_cond rfl ?_ ?_
      · intro hc2
        try simp only [bs] at hc2
        refine f_seq ?_
        refine f_region ?_
        refine scons (CStep.step (PStep.c (p_move (y := .val _) rfl (Sees.of rfl) rfl)) rfl rfl rfl rfl) ?_
        refine scons (CStep.step (PStep.c (p_assign (y := .val _) rfl (Sees.of rfl) rfl)) rfl rfl rfl rfl) ?_
        refine snil ?_
        refine f_ret ?_
        have e : Sp.nodeF (m + 1) t v (L, sn) = ((getL sn (strOfNums t)).getD 0, (L, sn)) := by rw [Sp.nodeF_step rfl rfl, if_pos hc2]
        rw [hres] at e
        subst e
        refine endsB_ret (resB_eq (resB_tmp rfl rfl (Sees.of rfl)) ?_) ⟨rfl, rfl, rfl, rfl, rfl, trivial⟩ rfl
        rfl
      · intro hc2
        try simp only [bs] at hc2
        refine f_skip ?_
        refine f_seq ?_
        refine f_region ?_
        refine scons (CStep.step (PStep.c (p_move (y := .val _) rfl (Sees.of rfl) rfl)) rfl rfl rfl rfl) ?_
        refine scons (CStep.step (PStep.c (p_len rfl wDia3_isl91 (Sees.of rfl))) rfl rfl rfl rfl) ?_
        refine scons (CStep.step (PStep.c (p_quo rfl (Sees.of rfl) (Sees.of rfl) (by omega) (by omega))) rfl rfl rfl rfl) ?_
        refine scons (CStep.step (PStep.c (p_assign (y := .val _) rfl (Sees.of rfl) rfl)) rfl rfl rfl rfl) ?_
        refine snil ?_
        refine f_seq ?_
        have hh : ((t.length : Int) / 2) = ((2 ^ m : Nat) : Int) := by omega
        rw [hh]
        have hlA := Sp.nodeF_len m (t.take (2 ^ m)) (v + 1) (L, sn)
        have hlB := Sp.nodeF_len m ((t.drop (2 ^ m)).take (t.length - 2 ^ m)) (v + 1) (Sp.nodeF m (t.take (2 ^ m)) (v + 1) (L, sn)).2
        simp only at hlA
        refine f_draw wDia3_mix (by kernel_rfl) ?_
        refine dcons (CStep.step (PStep.c (p_move (y := .val _) rfl (Sees.of rfl) rfl)) rfl rfl rfl rfl) ?_
        refine dcons (CStep.step (PStep.c (p_move (y := .ref _ _ _) rfl (Sees.of rfl) rfl)) rfl rfl rfl rfl) ?_
        refine dcons (CStep.step (PStep.c (p_move (y := .val _) rfl (Sees.of rfl) rfl)) rfl rfl rfl rfl) ?_
        refine dcons (CStep.step (PStep.c (p_move (y := .val _) rfl (Sees.of rfl) rfl)) rfl rfl rfl rfl) ?_
        refine dcons (CStep.step (PStep.c (p_slice (l := 0) (h := 2 ^ m) rfl wDia3_isl91 wDia3_siz5 (Sees.of rfl) rfl (Sees.of rfl) (by omega) (by omega))) rfl rfl rfl rfl) ?_
        refine dcons (CStep.step (PStep.c (p_move (y := .val _) rfl (Sees.of rfl) rfl)) rfl rfl rfl rfl) ?_
        refine dcons (CStep.step (PStep.c (p_add rfl (Sees.of rfl) (Sees.of rfl) (by omega))) rfl rfl rfl rfl) ?_
        refine dcons (r_callB rfl wDia3_isf79 (ih m (t.take (2 ^ m)) (v + 1) L sn _ (by omega) (by rw [List.length_take]; omega) (by omega) (fun x hx => h01 x (List.mem_of_mem_take hx)) (by omega) (by omega) rfl) ⟨_, _, rfl, (Sees.of rfl), ⟨_, _, rfl, (Sees.of rfl), ⟨_, _, rfl, (Sees.of rfl), rfl⟩⟩⟩ ⟨rfl, rfl, rfl, rfl, trivial⟩ rfl rfl rfl rfl rfl rfl) ?_
        refine dcons (CStep.step (PStep.c (p_move (y := .ref _ _ _) rfl (Sees.of rfl) rfl)) rfl rfl rfl rfl) ?_
        refine dcons (CStep.step (PStep.c (p_move (y := .val _) rfl (Sees.of rfl) rfl)) rfl rfl rfl rfl) ?_
        refine dcons (CStep.step (PStep.c (p_move (y := .val _) rfl (Sees.of rfl) rfl)) rfl rfl rfl rfl) ?_
        refine dcons (CStep.step (PStep.c (p_slice (l := 2 ^ m) (h := t.length) rfl wDia3_isl91 wDia3_siz5 (Sees.of rfl) (Sees.of rfl) rfl (by omega) (by omega))) rfl rfl rfl rfl) ?_
        refine dcons (CStep.step (PStep.c (p_move (y := .val _) rfl (Sees.of rfl) rfl)) rfl rfl rfl rfl) ?_
        refine dcons (CStep.step (PStep.c (p_add rfl (Sees.of rfl) (Sees.of rfl) (by omega))) rfl rfl rfl rfl) ?_
        refine dcons (r_callB rfl wDia3_isf79 (ih m ((t.drop (2 ^ m)).take (t.length - 2 ^ m)) (v + 1) (Sp.nodeF m (t.take (2 ^ m)) (v + 1) (L, sn)).2.1 (Sp.nodeF m (t.take (2 ^ m)) (v + 1) (L, sn)).2.2 (Sp.nodeF m ((t.drop (2 ^ m)).take (t.length - 2 ^ m)) (v + 1) (Sp.nodeF m (t.take (2 ^ m)) (v + 1) (L, sn)).2) (by omega) (by rw [List.length_take, List.length_drop]; omega) (by omega) (fun x hx => h01 x (List.mem_of_mem_drop (List.mem_of_mem_take hx))) (by omega) (by omega) rfl) ⟨_, _, rfl, (Sees.of rfl), ⟨_, _, rfl, (Sees.of rfl), ⟨_, _, rfl, (Sees.of rfl), rfl⟩⟩⟩ ⟨rfl, rfl, rfl, rfl, trivial⟩ rfl rfl rfl rfl rfl rfl) ?_
        refine dcons (CStep.step (PStep.c (p_build rfl wDia3_plc96 wDia3_zer96 (by decide) wDia3_zch96 ⟨_, _, _, rfl, rfl, rfl, (Sees.of rfl), ⟨_, _, _, rfl, rfl, rfl, (Sees.of rfl), ⟨_, _, _, rfl, rfl, rfl, (Sees.of rfl), rfl⟩⟩⟩ rfl)) rfl rfl rfl rfl) ?_
        refine dcons (r_alloc (ob := 10010) rfl wDia3_zer96 rfl rfl rfl rfl rfl rfl) ?_
        refine dcons (r_storeS rfl wDia3_siz96 rfl rfl rfl (Sees.of rfl) rfl (Sees.of rfl) rfl rfl rfl rfl) ?_
        refine dnil (by kernel_rfl) ?_
        refine f_seq ?_
        refine f_draw wDia3_mix (by kernel_rfl) ?_
        refine dcons (CStep.step (PStep.c (p_move (y := .ref _ _ _) rfl (Sees.of rfl) rfl)) rfl rfl rfl rfl) ?_
        refine dcons (CStep.step (PStep.c (p_nilRef rfl (Sees.of rfl) rfl)) rfl rfl rfl rfl) ?_
        refine dcons (CStep.step (PStep.c (p_fieldRef rfl wDia3_fld119_1 wDia3_siz116 rfl (Sees.of rfl) rfl)) rfl rfl rfl rfl) ?_
        refine dcons (CStep.step (PStep.c (p_loadB (y := .row _ _) rfl wDia3_agg116 (Sees.of rfl) rfl rfl rfl rfl)) rfl rfl rfl rfl) ?_
        refine dcons (CStep.step (PStep.c (p_loadBS rfl wDia3_agg96 wDia3_siz96 (Sees.of rfl) rfl rfl rfl)) rfl rfl rfl rfl) ?_
        refine dcons (CStep.step (PStep.c (p_lookOk (k := (v, (Sp.nodeF m (t.take (2 ^ m)) (v + 1) (L, sn)).1, (Sp.nodeF m ((t.drop (2 ^ m)).take (t.length - 2 ^ m)) (v + 1) (Sp.nodeF m (t.take (2 ^ m)) (v + 1) (L, sn)).2).1)) rfl wDia3_mty116 (Sees.of rfl) rfl (Sees.of rfl))) rfl rfl rfl rfl) ?_
        refine dcons (CStep.step (PStep.c (p_move (y := .val _) rfl (Sees.of rfl) rfl)) rfl rfl rfl rfl) ?_
        refine dcons (CStep.step (PStep.c (p_extract rfl (Sees.of rfl) rfl)) rfl rfl rfl rfl) ?_
        refine dcons (CStep.step (PStep.c (p_extract rfl (Sees.of rfl) rfl)) rfl rfl rfl rfl) ?_
        refine dcons (CStep.step (PStep.c (p_assign (y := .val _) rfl (Sees.of rfl) rfl)) rfl rfl rfl rfl) ?_
        refine dcons (CStep.step (PStep.c (p_assign (y := .val _) rfl (Sees.of rfl) rfl)) rfl rfl rfl rfl) ?_
        refine dnil (by kernel_rfl) ?_
        refine f_seq ?_
        refine f_block ?_
        refine f_seq ?_
        refine f_region ?_
        refine scons (CStep.step (PStep.c (p_fieldRef rfl wDia3_fld96_1 wDia3_siz3 rfl (Sees.of rfl) rfl)) rfl rfl rfl rfl) ?_
        refine scons (CStep.step (PStep.c (p_loadB (y := .val _) rfl wDia3_agg3 (Sees.of rfl) rfl rfl rfl rfl)) rfl rfl rfl rfl) ?_
        refine scons (CStep.step (PStep.c (p_fieldRef rfl wDia3_fld96_2 wDia3_siz3 rfl (Sees.of rfl) rfl)) rfl rfl rfl rfl) ?_
        refine scons (CStep.step (PStep.c (p_loadB (y := .val _) rfl wDia3_agg3 (Sees.of rfl) rfl rfl rfl rfl)) rfl rfl rfl rfl) ?_
        refine scons (CStep.step (PStep.c (p_eql rfl (Sees.of rfl) (Sees.of rfl))) rfl rfl rfl rfl) ?_
        refine scons (CStep.step (PStep.c (p_assign (y := .val _) rfl (Sees.of rfl) rfl)) rfl rfl rfl rfl) ?_
        refine snil ?_
        refine f_cond rfl ?_ ?_
        · intro hc3
          try simp only [bs] at hc3
          refine f_region ?_
          refine scons (CStep.step (PStep.c (p_fieldRef rfl wDia3_fld96_1 wDia3_siz3 rfl (Sees.of rfl) rfl)) rfl rfl rfl rfl) ?_
          refine scons (CStep.step (PStep.c (p_loadB (y := .val _) rfl wDia3_agg3 (Sees.of rfl) rfl rfl rfl rfl)) rfl rfl rfl rfl) ?_
          refine scons (CStep.step (PStep.c (p_assign (y := .val _) rfl (Sees.of rfl) rfl)) rfl rfl rfl rfl) ?_
          refine snil ?_
          refine f_nil ?_
          show AWs _ _ _ _ _
          refine f_seq ?_
          refine f_draw wDia3_mix (by kernel_rfl) ?_
          refine dcons (CStep.step (PStep.c (p_move (y := .ref _ _ _) rfl (Sees.of rfl) rfl)) rfl rfl rfl rfl) ?_
          refine dcons (CStep.step (PStep.c (p_nilRef rfl (Sees.of rfl) rfl)) rfl rfl rfl rfl) ?_
          refine dcons (CStep.step (PStep.c (p_fieldRef rfl wDia3_fld119_2 wDia3_siz117 rfl (Sees.of rfl) rfl)) rfl rfl rfl rfl) ?_
          refine dcons (CStep.step (PStep.c (p_loadB (y := .row _ _) rfl wDia3_agg117 (Sees.of rfl) rfl rfl rfl rfl)) rfl rfl rfl rfl) ?_
          refine dcons (CStep.step (PStep.c (p_move (y := .val _) rfl (Sees.of rfl) rfl)) rfl rfl rfl rfl) ?_
          refine dcons (CStep.step (PStep.c (p_bytesStr rfl wDia3_isl91 Go.Proofs.Try.underlying5 Go.Proofs.Try.underlying9 (Sees.of rfl))) rfl rfl rfl rfl) ?_
          refine dcons (CStep.step (PStep.c (p_move (y := .val _) rfl (Sees.of rfl) rfl)) rfl rfl rfl rfl) ?_
          refine dcons (r_mapPut rfl wDia3_mty117 rfl rfl rfl (Sees.of rfl) rfl (Sees.of rfl) (Sees.of rfl)) ?_
          refine dnil (by kernel_rfl) ?_
          refine f_seq ?_
          refine f_region ?_
          refine scons (CStep.step (PStep.c (p_move (y := .val _) rfl (Sees.of rfl) rfl)) rfl rfl rfl rfl) ?_
          refine scons (CStep.step (PStep.c (p_assign (y := .val _) rfl (Sees.of rfl) rfl)) rfl rfl rfl rfl) ?_
          refine snil ?_
          refine f_ret ?_
          have e : Sp.nodeF (m + 1) t v (L, sn) = ((Sp.nodeF m (t.take (2 ^ m)) (v + 1) (L, sn)).1, (Sp.nodeF m ((t.drop (2 ^ m)).take (t.length - 2 ^ m)) (v + 1) (Sp.nodeF m (t.take (2 ^ m)) (v + 1) (L, sn)).2).2.1, putL (Sp.nodeF m ((t.drop (2 ^ m)).take (t.length - 2 ^ m)) (v + 1) (Sp.nodeF m (t.take (2 ^ m)) (v + 1) (L, sn)).2).2.2 (strOfNums t) (Sp.nodeF m (t.take (2 ^ m)) (v + 1) (L, sn)).1) := by rw [Sp.nodeF_step rfl rfl, if_neg (by rw [hc2]; decide), if_pos hc3]
          rw [hres] at e
          subst e
          refine endsB_ret (resB_eq (resB_tmp rfl rfl (Sees.of rfl)) ?_) ⟨rfl, rfl, rfl, rfl, rfl, trivial⟩ rfl
          rfl
        · intro hc3
          try simp only [bs] at hc3
          refine f_seq ?_
          refine f_region ?_
          refine scons (CStep.step (PStep.c (p_move (y := .val _) rfl (Sees.of rfl) rfl)) rfl rfl rfl rfl) ?_
          refine scons (CStep.step (PStep.c (p_not rfl (Sees.of rfl))) rfl rfl rfl rfl) ?_
          refine scons (CStep.step (PStep.c (p_assign (y := .val _) rfl (Sees.of rfl) rfl)) rfl rfl rfl rfl) ?_
          refine snil ?_
          refine f_cond rfl ?_ ?_
          · intro hc4
            try simp only [bs] at hc4
            refine f_seq ?_
            refine f_draw wDia3_mix (by kernel_rfl) ?_
            refine dcons (CStep.step (PStep.c (p_move (y := .ref _ _ _) rfl (Sees.of rfl) rfl)) rfl rfl rfl rfl) ?_
            refine dcons (CStep.step (PStep.c (p_move (y := .ref _ _ _) rfl (Sees.of rfl) rfl)) rfl rfl rfl rfl) ?_
            refine dcons (CStep.step (PStep.c (p_nilRef rfl (Sees.of rfl) rfl)) rfl rfl rfl rfl) ?_
            refine dcons (CStep.step (PStep.c (p_fieldRef rfl wDia3_fld119_0 wDia3_siz39 rfl (Sees.of rfl) rfl)) rfl rfl rfl rfl) ?_
            refine dcons (CStep.step (PStep.c (p_loadB (y := .row _ _) rfl wDia3_agg39 (Sees.of rfl) rfl rfl rfl rfl)) rfl rfl rfl rfl) ?_
            refine dcons (CStep.step (PStep.c (p_loadBS rfl wDia3_agg96 wDia3_siz96 (Sees.of rfl) rfl rfl rfl)) rfl rfl rfl rfl) ?_
            refine dcons (CStep.step (c_buildSlice (f := dCho) (za := (0, 0, 0)) (xs := [.tmp 76]) rfl rfl wDia3_isl39 wDia3_siz96 wDia3_zer96 rfl rfl ⟨(_, _, _), _, rfl, (Sees.of rfl), rfl, rfl, rfl⟩) rfl rfl rfl rfl) ?_
            refine dcons (r_appendR (ob := 30001) rfl wDia3_isl39 wDia3_siz96 wDia3_byt96 wDia3_zer96 rfl rfl (Sees.of rfl) rfl (Sees.of rfl) (by simp only [List.length_cons, List.length_nil, List.length_append]; omega) (by simp only [List.length_cons, List.length_nil, List.length_append]; omega) rfl rfl rfl rfl rfl) ?_
            refine dcons (CStep.step (PStep.c (p_nilRef rfl (Sees.of rfl) rfl)) rfl rfl rfl rfl) ?_
            refine dcons (CStep.step (PStep.c (p_fieldRef rfl wDia3_fld119_0 wDia3_siz39 rfl (Sees.of rfl) rfl)) rfl rfl rfl rfl) ?_
            refine dcons (r_storeR rfl wDia3_siz39 rfl rfl rfl (Sees.of rfl) rfl rfl (Sees.of rfl) rfl) ?_
            refine dnil (by kernel_rfl) ?_
            refine f_seq ?_
            have hln : ((Sp.nodeF m ((t.drop (2 ^ m)).take (t.length - 2 ^ m)) (v + 1) (Sp.nodeF m (t.take (2 ^ m)) (v + 1) (L, sn)).2).2.1 ++ [(v, (Sp.nodeF m (t.take (2 ^ m)) (v + 1) (L, sn)).1, (Sp.nodeF m ((t.drop (2 ^ m)).take (t.length - 2 ^ m)) (v + 1) (Sp.nodeF m (t.take (2 ^ m)) (v + 1) (L, sn)).2).1)]).length = (Sp.nodeF m ((t.drop (2 ^ m)).take (t.length - 2 ^ m)) (v + 1) (Sp.nodeF m (t.take (2 ^ m)) (v + 1) (L, sn)).2).2.1.length + 1 := by simp
            refine f_region ?_
            refine scons (CStep.step (PStep.c (p_move (y := .ref _ _ _) rfl (Sees.of rfl) rfl)) rfl rfl rfl rfl) ?_
            refine scons (CStep.step (PStep.c (p_nilRef rfl (Sees.of rfl) rfl)) rfl rfl rfl rfl) ?_
            refine scons (CStep.step (PStep.c (p_fieldRef rfl wDia3_fld119_0 wDia3_siz39 rfl (Sees.of rfl) rfl)) rfl rfl rfl rfl) ?_
            refine scons (CStep.step (PStep.c (p_loadB (y := .row _ _) rfl wDia3_agg39 (Sees.of rfl) rfl rfl rfl rfl)) rfl rfl rfl rfl) ?_
            refine scons (CStep.step (PStep.c (p_lenR rfl wDia3_isl39 (Sees.of rfl) rfl)) rfl rfl rfl rfl) ?_
            refine scons (CStep.step (PStep.c (p_add rfl (Sees.of rfl) (Sees.of rfl) (by simp only [List.length_append, List.length_cons, List.length_nil]; omega))) rfl rfl rfl rfl) ?_
            refine scons (CStep.step (PStep.c (p_assign (y := .val _) rfl (Sees.of rfl) rfl)) rfl rfl rfl rfl) ?_
            refine snil ?_
            refine f_draw wDia3_mix (by kernel_rfl) ?_
            refine dcons (CStep.step (PStep.c (p_move (y := .ref _ _ _) rfl (Sees.of rfl) rfl)) rfl rfl rfl rfl) ?_
            refine dcons (CStep.step (PStep.c (p_nilRef rfl (Sees.of rfl) rfl)) rfl rfl rfl rfl) ?_
            refine dcons (CStep.step (PStep.c (p_fieldRef rfl wDia3_fld119_1 wDia3_siz116 rfl (Sees.of rfl) rfl)) rfl rfl rfl rfl) ?_
            refine dcons (CStep.step (PStep.c (p_loadB (y := .row _ _) rfl wDia3_agg116 (Sees.of rfl) rfl rfl rfl rfl)) rfl rfl rfl rfl) ?_
            refine dcons (CStep.step (PStep.c (p_loadBS rfl wDia3_agg96 wDia3_siz96 (Sees.of rfl) rfl rfl rfl)) rfl rfl rfl rfl) ?_
            refine dcons (CStep.step (PStep.c (p_move (y := .val _) rfl (Sees.of rfl) rfl)) rfl rfl rfl rfl) ?_
            refine dcons (r_mapPut (k := (v, (Sp.nodeF m (t.take (2 ^ m)) (v + 1) (L, sn)).1, (Sp.nodeF m ((t.drop (2 ^ m)).take (t.length - 2 ^ m)) (v + 1) (Sp.nodeF m (t.take (2 ^ m)) (v + 1) (L, sn)).2).1)) rfl wDia3_mty116 rfl rfl rfl (Sees.of rfl) rfl (Sees.of rfl) (Sees.of rfl)) ?_
            refine dnil (by kernel_rfl) ?_
            refine f_nil ?_
            show AWs _ _ _ _ _
            refine f_seq ?_
            refine f_draw wDia3_mix (by kernel_rfl) ?_
            refine dcons (CStep.step (PStep.c (p_move (y := .ref _ _ _) rfl (Sees.of rfl) rfl)) rfl rfl rfl rfl) ?_
            refine dcons (CStep.step (PStep.c (p_nilRef rfl (Sees.of rfl) rfl)) rfl rfl rfl rfl) ?_
            refine dcons (CStep.step (PStep.c (p_fieldRef rfl wDia3_fld119_2 wDia3_siz117 rfl (Sees.of rfl) rfl)) rfl rfl rfl rfl) ?_
            refine dcons (CStep.step (PStep.c (p_loadB (y := .row _ _) rfl wDia3_agg117 (Sees.of rfl) rfl rfl rfl rfl)) rfl rfl rfl rfl) ?_
            refine dcons (CStep.step (PStep.c (p_move (y := .val _) rfl (Sees.of rfl) rfl)) rfl rfl rfl rfl) ?_
            refine dcons (CStep.step (PStep.c (p_bytesStr rfl wDia3_isl91 Go.Proofs.Try.underlying5 Go.Proofs.Try.underlying9 (Sees.of rfl))) rfl rfl rfl rfl) ?_
            refine dcons (CStep.step (PStep.c (p_move (y := .val _) rfl (Sees.of rfl) rfl)) rfl rfl rfl rfl) ?_
            refine dcons (r_mapPut rfl wDia3_mty117 rfl rfl rfl (Sees.of rfl) rfl (Sees.of rfl) (Sees.of rfl)) ?_
            refine dnil (by kernel_rfl) ?_
            refine f_seq ?_
            refine f_region ?_
            refine scons (CStep.step (PStep.c (p_move (y := .val _) rfl (Sees.of rfl) rfl)) rfl rfl rfl rfl) ?_
            refine scons (CStep.step (PStep.c (p_assign (y := .val _) rfl (Sees.of rfl) rfl)) rfl rfl rfl rfl) ?_
            refine snil ?_
            refine f_ret ?_
            have hn : (v, (Sp.nodeF m (t.take (2 ^ m)) (v + 1) (L, sn)).1, (Sp.nodeF m ((t.drop (2 ^ m)).take (t.length - 2 ^ m)) (v + 1) (Sp.nodeF m (t.take (2 ^ m)) (v + 1) (L, sn)).2).1) ∉ (Sp.nodeF m ((t.drop (2 ^ m)).take (t.length - 2 ^ m)) (v + 1) (Sp.nodeF m (t.take (2 ^ m)) (v + 1) (L, sn)).2).2.1 := (Sp.known_not _ _).1 (Option.not_isSome_iff_eq_none.1 (by rw [hc4]; decide))
            have e : Sp.nodeF (m + 1) t v (L, sn) = ((((Sp.nodeF m ((t.drop (2 ^ m)).take (t.length - 2 ^ m)) (v + 1) (Sp.nodeF m (t.take (2 ^ m)) (v + 1) (L, sn)).2).2.1 ++ [(v, (Sp.nodeF m (t.take (2 ^ m)) (v + 1) (L, sn)).1, (Sp.nodeF m ((t.drop (2 ^ m)).take (t.length - 2 ^ m)) (v + 1) (Sp.nodeF m (t.take (2 ^ m)) (v + 1) (L, sn)).2).1)]).length : Int) + 1, (Sp.nodeF m ((t.drop (2 ^ m)).take (t.length - 2 ^ m)) (v + 1) (Sp.nodeF m (t.take (2 ^ m)) (v + 1) (L, sn)).2).2.1 ++ [(v, (Sp.nodeF m (t.take (2 ^ m)) (v + 1) (L, sn)).1, (Sp.nodeF m ((t.drop (2 ^ m)).take (t.length - 2 ^ m)) (v + 1) (Sp.nodeF m (t.take (2 ^ m)) (v + 1) (L, sn)).2).1)], putL (Sp.nodeF m ((t.drop (2 ^ m)).take (t.length - 2 ^ m)) (v + 1) (Sp.nodeF m (t.take (2 ^ m)) (v + 1) (L, sn)).2).2.2 (strOfNums t) ((((Sp.nodeF m ((t.drop (2 ^ m)).take (t.length - 2 ^ m)) (v + 1) (Sp.nodeF m (t.take (2 ^ m)) (v + 1) (L, sn)).2).2.1 ++ [(v, (Sp.nodeF m (t.take (2 ^ m)) (v + 1) (L, sn)).1, (Sp.nodeF m ((t.drop (2 ^ m)).take (t.length - 2 ^ m)) (v + 1) (Sp.nodeF m (t.take (2 ^ m)) (v + 1) (L, sn)).2).1)]).length : Int) + 1)) := by rw [Sp.nodeF_step rfl rfl, if_neg (by rw [hc2]; decide), if_neg hc3, if_neg (by rw [hc4]; decide)]
            rw [hres] at e
            subst e
            refine endsB_ret (resB_eq (resB_tmp rfl rfl (Sees.of rfl)) ?_) ⟨rfl, (by rw [hln]; rfl), (by rw [hln]; rfl), (by rw [← Sp.known_put hn]; rfl), rfl, trivial⟩ rfl
            rfl
          · intro hc4
            try simp only [bs] at hc4
            refine f_skip ?_
            refine f_nil ?_
            show AWs _ _ _ _ _
            refine f_seq ?_
            refine f_draw wDia3_mix (by kernel_rfl) ?_
            refine dcons (CStep.step (PStep.c (p_move (y := .ref _ _ _) rfl (Sees.of rfl) rfl)) rfl rfl rfl rfl) ?_
            refine dcons (CStep.step (PStep.c (p_nilRef rfl (Sees.of rfl) rfl)) rfl rfl rfl rfl) ?_
            refine dcons (CStep.step (PStep.c (p_fieldRef rfl wDia3_fld119_2 wDia3_siz117 rfl (Sees.of rfl) rfl)) rfl rfl rfl rfl) ?_
            refine dcons (CStep.step (PStep.c (p_loadB (y := .row _ _) rfl wDia3_agg117 (Sees.of rfl) rfl rfl rfl rfl)) rfl rfl rfl rfl) ?_
            refine dcons (CStep.step (PStep.c (p_move (y := .val _) rfl (Sees.of rfl) rfl)) rfl rfl rfl rfl) ?_
            refine dcons (CStep.step (PStep.c (p_bytesStr rfl wDia3_isl91 Go.Proofs.Try.underlying5 Go.Proofs.Try.underlying9 (Sees.of rfl))) rfl rfl rfl rfl) ?_
            refine dcons (CStep.step (PStep.c (p_move (y := .val _) rfl (Sees.of rfl) rfl)) rfl rfl rfl rfl) ?_
            refine dcons (r_mapPut rfl wDia3_mty117 rfl rfl rfl (Sees.of rfl) rfl (Sees.of rfl) (Sees.of rfl)) ?_
            refine dnil (by kernel_rfl) ?_
            refine f_seq ?_
            refine f_region ?_
            refine scons (CStep.step (PStep.c (p_move (y := .val _) rfl (Sees.of rfl) rfl)) rfl rfl rfl rfl) ?_
            refine scons (CStep.step (PStep.c (p_assign (y := .val _) rfl (Sees.of rfl) rfl)) rfl rfl rfl rfl) ?_
            refine snil ?_
            refine f_ret ?_
            have e : Sp.nodeF (m + 1) t v (L, sn) = ((getL (Sp.knownOf (Sp.nodeF m ((t.drop (2 ^ m)).take (t.length - 2 ^ m)) (v + 1) (Sp.nodeF m (t.take (2 ^ m)) (v + 1) (L, sn)).2).2.1) (v, (Sp.nodeF m (t.take (2 ^ m)) (v + 1) (L, sn)).1, (Sp.nodeF m ((t.drop (2 ^ m)).take (t.length - 2 ^ m)) (v + 1) (Sp.nodeF m (t.take (2 ^ m)) (v + 1) (L, sn)).2).1)).getD 0, (Sp.nodeF m ((t.drop (2 ^ m)).take (t.length - 2 ^ m)) (v + 1) (Sp.nodeF m (t.take (2 ^ m)) (v + 1) (L, sn)).2).2.1, putL (Sp.nodeF m ((t.drop (2 ^ m)).take (t.length - 2 ^ m)) (v + 1) (Sp.nodeF m (t.take (2 ^ m)) (v + 1) (L, sn)).2).2.2 (strOfNums t) ((getL (Sp.knownOf (Sp.nodeF m ((t.drop (2 ^ m)).take (t.length - 2 ^ m)) (v + 1) (Sp.nodeF m (t.take (2 ^ m)) (v + 1) (L, sn)).2).2.1) (v, (Sp.nodeF m (t.take (2 ^ m)) (v + 1) (L, sn)).1, (Sp.nodeF m ((t.drop (2 ^ m)).take (t.length - 2 ^ m)) (v + 1) (Sp.nodeF m (t.take (2 ^ m)) (v + 1) (L, sn)).2).1)).getD 0)) := by rw [Sp.nodeF_step rfl rfl, if_neg (by rw [hc2]; decide), if_neg hc3, if_pos hc4]
            rw [hres] at e
            subst e
            refine endsB_ret (resB_eq (resB_tmp rfl rfl (Sees.of rfl)) ?_) ⟨rfl, rfl, rfl, rfl, rfl, trivial⟩ rfl
            rfl

theorem Built_spec (n : Nat) (t : List Bool) (hn : n ≤ 16) (ht : t.length = 2 ^ n) :
    Spec Go.Proofs.Try.prog 52 [.val (bytes (t.map Sp.b01))] (two (dia (Sp.diaBuilt n t).1 (Sp.diaBuilt n t).2.1) (fault (Sp.diaBuilt n t).2.2.1 (Sp.diaBuilt n t).2.2.2)) := by
  refine spec_of' Go.Proofs.Try.func52 rfl Go.Proofs.Try.ntmps52 rfl ?_
  refine f_seq ?_
  refine f_region ?_
  refine scons (r_alloc (ob := 10002) rfl wDia3_zer41 rfl rfl rfl rfl rfl rfl) ?_
  refine scons (r_alloc (ob := 10003) rfl wDia3_zer28 rfl rfl rfl rfl rfl rfl) ?_
  refine snil ?_
  refine f_seq ?_
  refine f_region ?_
  refine scons (r_makeMap (ob := 30002) vCho vInt rfl rfl rfl rfl rfl rfl) ?_
  refine scons (r_makeMap (ob := 30003) Value.string vInt rfl rfl rfl rfl rfl rfl) ?_
  refine scons (CStep.step (PStep.c (p_buildV rfl wDia3_plc119 wDia3_zer119 rfl rfl ⟨_, _, _, _, _, rfl, rfl, rfl, (Sees.of rfl), (oneAt_map rfl), ⟨_, _, _, _, _, rfl, rfl, rfl, (Sees.of rfl), (oneAt_map rfl), ⟨rfl, rfl⟩⟩⟩ rfl)) rfl rfl rfl rfl) ?_
  refine scons (r_box (ob := 30000) rfl (Sees.of rfl) rfl rfl rfl rfl rfl rfl) ?_
  refine scons (CStep.step (PStep.c (p_assign (y := .ref _ _ _) rfl (Sees.of rfl) rfl)) rfl rfl rfl rfl) ?_
  refine snil ?_
  refine f_seq ?_
  refine f_le (GLe.le (g_adoptB (ob := 30000) (off := 0) (o1 := 30001) 96 3 24 dCho (0, 0, 0) rfl rfl rfl rfl rfl rfl rfl)) ?_ (by simp)
  have hp16 := Sp.pow16 hn
  have hnl := Sp.nodeF_len n (t.map Sp.b01) 1 ([], [])
  have hnb := Sp.node_built ht
  simp at hnl
  refine f_region ?_
  refine scons (CStep.step (PStep.c (p_move (y := .ref _ _ _) rfl (Sees.of rfl) rfl)) rfl rfl rfl rfl) ?_
  refine scons (CStep.step (PStep.c (p_move (y := .val _) rfl (Sees.of rfl) rfl)) rfl rfl rfl rfl) ?_
  refine scons (r_callB rfl wDia3_isf79 (node_spec (n + 1) n (t.map Sp.b01) 1 [] [] _ (by omega) (by rw [List.length_map]; exact ht) hn (fun x hx => by obtain ⟨b, _, rfl⟩ := List.mem_map.1 hx; exact Sp.b01_le b) (by omega) (by simp; omega) rfl) ⟨_, _, rfl, (Sees.of rfl), ⟨_, _, rfl, (Sees.of rfl), ⟨_, _, rfl, (Sees.of rfl), rfl⟩⟩⟩ ⟨rfl, rfl, rfl, rfl, trivial⟩ rfl rfl rfl rfl rfl rfl) ?_
  refine scons (CStep.step (PStep.c (p_assign (y := .val _) rfl (Sees.of rfl) rfl)) rfl rfl rfl rfl) ?_
  refine snil ?_
  refine f_seq ?_
  refine f_seq ?_
  refine f_region ?_
  refine scons (CStep.step (PStep.c (p_move (y := .ref _ _ _) rfl (Sees.of rfl) rfl)) rfl rfl rfl rfl) ?_
  refine scons (CStep.step (PStep.c (p_nilRef rfl (Sees.of rfl) rfl)) rfl rfl rfl rfl) ?_
  refine scons (CStep.step (PStep.c (p_fieldRef rfl wDia3_fld119_0 wDia3_siz39 rfl (Sees.of rfl) rfl)) rfl rfl rfl rfl) ?_
  refine scons (CStep.step (PStep.c (p_loadB (y := .row _ _) rfl wDia3_agg39 (Sees.of rfl) rfl rfl rfl rfl)) rfl rfl rfl rfl) ?_
  refine scons (CStep.step (PStep.c (p_lenR rfl wDia3_isl39 (Sees.of rfl) rfl)) rfl rfl rfl rfl) ?_
  refine scons (CStep.step (PStep.c (p_gtr rfl (Sees.of rfl) (Sees.of rfl))) rfl rfl rfl rfl) ?_
  refine snil ?_
  refine f_cond rfl ?_ ?_
  · intro hc1
    try simp only [bs] at hc1
    refine f_seq ?_
    refine f_region ?_
    refine scons (CStep.step (PStep.c (p_build rfl wDia3_plc41 wDia3_zer41 (by decide) wDia3_zch41 rfl rfl)) rfl rfl rfl rfl) ?_
    refine scons (CStep.step (PStep.c (p_build rfl wDia3_plc28 wDia3_zer28 (by decide) wDia3_zch28 ⟨_, _, _, rfl, rfl, rfl, (Sees.of rfl), rfl⟩ rfl)) rfl rfl rfl rfl) ?_
    refine scons (r_storeS rfl wDia3_siz41 rfl rfl rfl (Sees.of rfl) rfl (Sees.of rfl) rfl rfl rfl rfl) ?_
    refine scons (r_storeS rfl wDia3_siz28 rfl rfl rfl (Sees.of rfl) rfl (Sees.of rfl) rfl rfl rfl rfl) ?_
    refine snil ?_
    refine f_ret ?_
    refine ends_ret (res_eq (res2 rfl (res_cell (by rfl) rfl rfl wDia3_agg41 wDia3_siz41 rfl rfl) (res_cell (by rfl) rfl rfl wDia3_agg28 wDia3_siz28 rfl rfl)) ?_)
    rw [Sp.diaBuilt, if_pos (by rw [← hnb.2]; omega)]
    all_goals rfl
  · intro hc1
    try simp only [bs] at hc1
    refine f_skip ?_
    refine f_seq ?_
    refine f_region ?_
    refine scons (CStep.step (PStep.c (p_move (y := .ref _ _ _) rfl (Sees.of rfl) rfl)) rfl rfl rfl rfl) ?_
    refine scons (CStep.step (PStep.c (p_nilRef rfl (Sees.of rfl) rfl)) rfl rfl rfl rfl) ?_
    refine scons (CStep.step (PStep.c (p_fieldRef rfl wDia3_fld119_0 wDia3_siz39 rfl (Sees.of rfl) rfl)) rfl rfl rfl rfl) ?_
    refine scons (CStep.step (PStep.c (p_loadB (y := .row _ _) rfl wDia3_agg39 (Sees.of rfl) rfl rfl rfl rfl)) rfl rfl rfl rfl) ?_
    refine scons (CStep.step (PStep.c (p_move (y := .val _) rfl (Sees.of rfl) rfl)) rfl rfl rfl rfl) ?_
    refine scons (LStep.pre (g_freeze (k := 24) (o1 := 30001) rfl rfl rfl rfl) (CStep.step (PStep.c (p_build rfl wDia3_plc41 wDia3_zer41 (by decide) wDia3_zch41 ⟨_, _, _, rfl, rfl, rfl, (Sees.of rfl), ⟨_, _, _, rfl, rfl, rfl, (Sees.of rfl), rfl⟩⟩ rfl)) rfl rfl rfl rfl)) ?_
    refine scons (CStep.step (PStep.c (p_build rfl wDia3_plc28 wDia3_zer28 (by decide) wDia3_zch28 rfl rfl)) rfl rfl rfl rfl) ?_
    refine scons (r_storeS rfl wDia3_siz41 rfl rfl rfl (Sees.of rfl) rfl (Sees.of rfl) rfl rfl rfl rfl) ?_
    refine scons (r_storeS rfl wDia3_siz28 rfl rfl rfl (Sees.of rfl) rfl (Sees.of rfl) rfl rfl rfl rfl) ?_
    refine snil ?_
    refine f_ret ?_
    refine ends_ret (res_eq (res2 rfl (res_cell (by rfl) rfl rfl wDia3_agg41 wDia3_siz41 rfl rfl) (res_cell (by rfl) rfl rfl wDia3_agg28 wDia3_siz28 rfl rfl)) ?_)
    rw [Sp.diaBuilt, if_neg (by rw [← hnb.2]; omega), ← hnb.1, ← hnb.2]
    all_goals rfl

theorem grow_spec (f k : Nat) (l : List Sp.Cho) (t : List Bool) (v : Int) (hmf : k < f) (ht : t.length = 2 ^ k) (hm : k ≤ 16) (hv : 0 ≤ v ∧ v + k ≤ 1000) (hL : l.length + 2 ^ k ≤ 1000000) :
    Spec Go.Proofs.Try.prog 57 [.val (chos l), .val (bools t), iv v] (two (chos (Sp.grow k l t v).1) (di (Sp.grow k l t v).2)) := by
  induction f generalizing k l t v with
  | zero => omega
  | succ f ih =>
    refine spec_of' Go.Proofs.Try.func57 rfl Go.Proofs.Try.ntmps57 rfl ?_
    refine f_seq ?_
    have hk16 := Sp.pow16 hm
    refine f_region ?_
    refine scons (CStep.step (PStep.c (p_assign (y := .emp) rfl (Sees.of rfl) rfl)) rfl rfl rfl rfl) ?_
    refine scons (CStep.step (PStep.c (p_assign (y := .val _) rfl (Sees.of rfl) rfl)) rfl rfl rfl rfl) ?_
    refine snil ?_
    refine f_seq ?_
    refine f_seq ?_
    refine f_region ?_
    refine scons (CStep.step (PStep.c (p_move (y := .val _) rfl (Sees.of rfl) rfl)) rfl rfl rfl rfl) ?_
    refine scons (CStep.step (PStep.c (p_len rfl wDia3_isl45 (Sees.of rfl))) rfl rfl rfl rfl) ?_
    refine scons (CStep.step (PStep.c (p_eql rfl (Sees.of rfl) (Sees.of rfl))) rfl rfl rfl rfl) ?_
    refine snil ?_
    refine f_cond rfl ?_ ?_
    · intro hc1
      try simp only [bs] at hc1
      refine f_seq ?_
      refine f_seq ?_
      obtain rfl : k = 0 := by
        rcases Nat.eq_zero_or_pos k with h | h
        · exact h
        · have h3 : 2 ^ k = 1 := by omega
          have h4 := Nat.pow_lt_pow_right (a := 2) (by decide) h
          exact absurd h4 (by rw [h3]; decide)
      refine f_region ?_
      refine scons (CStep.step (PStep.c (p_move (y := .val _) rfl (Sees.of rfl) rfl)) rfl rfl rfl rfl) ?_
      refine scons (CStep.step (PStep.c ((by first | exact p_indexN rfl wDia3_isl45 wDia3_siz4 (Sees.of rfl) (Sees.of rfl) (by omega) | exact p_index rfl wDia3_isl45 wDia3_siz4 (Sees.of rfl) (Sees.of rfl) (by omega) (by omega)))) rfl rfl rfl rfl) ?_
      refine scons (CStep.step (PStep.c (p_load rfl wDia3_agg4 (Sees.of rfl) rfl)) rfl rfl rfl rfl) ?_
      refine snil ?_
      refine f_cond rfl ?_ ?_
      · intro hc2
        try simp only [bs] at hc2
        refine f_seq ?_
        refine f_region ?_
        refine scons (CStep.step (PStep.c (p_move (y := .val _) rfl (Sees.of rfl) rfl)) rfl rfl rfl rfl) ?_
        refine scons (CStep.step (PStep.c (p_assign (y := .val _) rfl (Sees.of rfl) rfl)) rfl rfl rfl rfl) ?_
        refine scons (CStep.step (PStep.c (p_assign (y := .val _) rfl (Sees.of rfl) rfl)) rfl rfl rfl rfl) ?_
        refine snil ?_
        refine f_ret ?_
        refine ends_ret (res_eq (res2 rfl (res_tmp rfl (Sees.of rfl)) (res_tmp rfl (Sees.of rfl))) ?_)
        have e : Sp.b01 (t.getD 0 false) = 1 := (Sp.b01_one _).2 hc2
        rw [Sp.grow, e]
        all_goals rfl
      · intro hc2
        try simp only [bs] at hc2
        refine f_skip ?_
        refine f_seq ?_
        refine f_region ?_
        refine scons (CStep.step (PStep.c (p_move (y := .val _) rfl (Sees.of rfl) rfl)) rfl rfl rfl rfl) ?_
        refine scons (CStep.step (PStep.c (p_assign (y := .val _) rfl (Sees.of rfl) rfl)) rfl rfl rfl rfl) ?_
        refine scons (CStep.step (PStep.c (p_assign (y := .val _) rfl (Sees.of rfl) rfl)) rfl rfl rfl rfl) ?_
        refine snil ?_
        refine f_ret ?_
        refine ends_ret (res_eq (res2 rfl (res_tmp rfl (Sees.of rfl)) (res_tmp rfl (Sees.of rfl))) ?_)
        have e : Sp.b01 (t.getD 0 false) = 0 := by unfold Sp.b01; rw [if_neg (by intro h; have h2 : t.getD (Int.toNat 0) false = true := h; rw [h2] at hc2; cases hc2)]
        rw [Sp.grow, e]
        all_goals rfl
    · intro hc1
      try simp only [bs] at hc1
      obtain ⟨m, rfl⟩ : ∃ q, k = q + 1 := ⟨k - 1, by
        rcases Nat.eq_zero_or_pos k with h | h
        · subst h; simp at ht; omega
        · omega⟩
      have hp : 2 ^ (m + 1) = 2 ^ m + 2 ^ m := by rw [Nat.pow_succ]; omega
      have hp1 : 1 ≤ 2 ^ m := Nat.one_le_two_pow
      have hh : ((t.length : Int) / 2) = ((2 ^ m : Nat) : Int) := by omega
      have hlA := Sp.grow_len m l (t.take (2 ^ m)) (v + 1)
      have hlB := Sp.grow_len m (Sp.grow m l (t.take (2 ^ m)) (v + 1)).1 ((t.drop (2 ^ m)).take (t.length - 2 ^ m)) (v + 1)
      refine f_skip ?_
      refine f_seq ?_
      refine f_region ?_
      refine scons (CStep.step (PStep.c (p_move (y := .val _) rfl (Sees.of rfl) rfl)) rfl rfl rfl rfl) ?_
      refine scons (CStep.step (PStep.c (p_move (y := .val _) rfl (Sees.of rfl) rfl)) rfl rfl rfl rfl) ?_
      refine scons (CStep.step (PStep.c (p_move (y := .val _) rfl (Sees.of rfl) rfl)) rfl rfl rfl rfl) ?_
      refine scons (CStep.step (PStep.c (p_len rfl wDia3_isl45 (Sees.of rfl))) rfl rfl rfl rfl) ?_
      refine scons (CStep.step (PStep.c (p_quo rfl (Sees.of rfl) (Sees.of rfl) (by omega) (by omega))) rfl rfl rfl rfl) ?_
      rw [hh]
      refine scons (CStep.step (PStep.c (p_slice (l := 0) (h := 2 ^ m) rfl wDia3_isl45 wDia3_siz4 (Sees.of rfl) rfl (Sees.of rfl) (by omega) (by omega))) rfl rfl rfl rfl) ?_
      refine scons (CStep.step (PStep.c (p_move (y := .val _) rfl (Sees.of rfl) rfl)) rfl rfl rfl rfl) ?_
      refine scons (CStep.step (PStep.c (p_add rfl (Sees.of rfl) (Sees.of rfl) (by omega))) rfl rfl rfl rfl) ?_
      refine scons (CStep.step (c_call rfl wDia3_isf57 ⟨_, _, rfl, (Sees.of rfl), rfl, ⟨_, _, rfl, (Sees.of rfl), rfl, ⟨_, _, rfl, (Sees.of rfl), rfl, rfl⟩⟩⟩ (ih m l (t.take (2 ^ m)) (v + 1) (by omega) (by rw [List.length_take]; omega) (by omega) (by omega) (by omega))) rfl rfl rfl rfl) ?_
      refine scons (CStep.step (PStep.c (p_move (y := .val _) rfl (Sees.of rfl) rfl)) rfl rfl rfl rfl) ?_
      refine scons (CStep.step (PStep.c (p_extract rfl (Sees.of rfl) rfl)) rfl rfl rfl rfl) ?_
      refine scons (CStep.step (PStep.c (p_extract rfl (Sees.of rfl) rfl)) rfl rfl rfl rfl) ?_
      refine scons (CStep.step (PStep.c (p_assign (y := .val _) rfl (Sees.of rfl) rfl)) rfl rfl rfl rfl) ?_
      refine scons (CStep.step (PStep.c (p_assign (y := .val _) rfl (Sees.of rfl) rfl)) rfl rfl rfl rfl) ?_
      refine snil ?_
      refine f_seq ?_
      refine f_region ?_
      refine scons (CStep.step (PStep.c (p_move (y := .val _) rfl (Sees.of rfl) rfl)) rfl rfl rfl rfl) ?_
      refine scons (CStep.step (PStep.c (p_move (y := .val _) rfl (Sees.of rfl) rfl)) rfl rfl rfl rfl) ?_
      refine scons (CStep.step (PStep.c (p_move (y := .val _) rfl (Sees.of rfl) rfl)) rfl rfl rfl rfl) ?_
      refine scons (CStep.step (PStep.c (p_len rfl wDia3_isl45 (Sees.of rfl))) rfl rfl rfl rfl) ?_
      refine scons (CStep.step (PStep.c (p_quo rfl (Sees.of rfl) (Sees.of rfl) (by omega) (by omega))) rfl rfl rfl rfl) ?_
      rw [hh]
      refine scons (CStep.step (PStep.c (p_slice (l := 2 ^ m) (h := t.length) rfl wDia3_isl45 wDia3_siz4 (Sees.of rfl) (Sees.of rfl) rfl (by omega) (by omega))) rfl rfl rfl rfl) ?_
      refine scons (CStep.step (PStep.c (p_move (y := .val _) rfl (Sees.of rfl) rfl)) rfl rfl rfl rfl) ?_
      refine scons (CStep.step (PStep.c (p_add rfl (Sees.of rfl) (Sees.of rfl) (by omega))) rfl rfl rfl rfl) ?_
      refine scons (CStep.step (c_call rfl wDia3_isf57 ⟨_, _, rfl, (Sees.of rfl), rfl, ⟨_, _, rfl, (Sees.of rfl), rfl, ⟨_, _, rfl, (Sees.of rfl), rfl, rfl⟩⟩⟩ (ih m (Sp.grow m l (t.take (2 ^ m)) (v + 1)).1 ((t.drop (2 ^ m)).take (t.length - 2 ^ m)) (v + 1) (by omega) (by rw [List.length_take, List.length_drop]; omega) (by omega) (by omega) (by omega))) rfl rfl rfl rfl) ?_
      refine scons (CStep.step (PStep.c (p_move (y := .val _) rfl (Sees.of rfl) rfl)) rfl rfl rfl rfl) ?_
      refine scons (CStep.step (PStep.c (p_extract rfl (Sees.of rfl) rfl)) rfl rfl rfl rfl) ?_
      refine scons (CStep.step (PStep.c (p_extract rfl (Sees.of rfl) rfl)) rfl rfl rfl rfl) ?_
      refine scons (CStep.step (PStep.c (p_assign (y := .val _) rfl (Sees.of rfl) rfl)) rfl rfl rfl rfl) ?_
      refine scons (CStep.step (PStep.c (p_assign (y := .val _) rfl (Sees.of rfl) rfl)) rfl rfl rfl rfl) ?_
      refine snil ?_
      refine f_seq ?_
      refine f_seq ?_
      refine f_region ?_
      refine scons (CStep.step (PStep.c (p_move (y := .val _) rfl (Sees.of rfl) rfl)) rfl rfl rfl rfl) ?_
      refine scons (CStep.step (PStep.c (p_move (y := .val _) rfl (Sees.of rfl) rfl)) rfl rfl rfl rfl) ?_
      refine scons (CStep.step (PStep.c (p_eql rfl (Sees.of rfl) (Sees.of rfl))) rfl rfl rfl rfl) ?_
      refine snil ?_
      refine f_cond rfl ?_ ?_
      · intro hc3
        try simp only [bs] at hc3
        refine f_seq ?_
        refine f_region ?_
        refine scons (CStep.step (PStep.c (p_move (y := .val _) rfl (Sees.of rfl) rfl)) rfl rfl rfl rfl) ?_
        refine scons (CStep.step (PStep.c (p_move (y := .val _) rfl (Sees.of rfl) rfl)) rfl rfl rfl rfl) ?_
        refine scons (CStep.step (PStep.c (p_assign (y := .val _) rfl (Sees.of rfl) rfl)) rfl rfl rfl rfl) ?_
        refine scons (CStep.step (PStep.c (p_assign (y := .val _) rfl (Sees.of rfl) rfl)) rfl rfl rfl rfl) ?_
        refine snil ?_
        refine f_ret ?_
        refine ends_ret (res_eq (res2 rfl (res_tmp rfl (Sees.of rfl)) (res_tmp rfl (Sees.of rfl))) ?_)
        have e : Sp.grow (m + 1) l t v = ((Sp.grow m (Sp.grow m l (t.take (2 ^ m)) (v + 1)).1 ((t.drop (2 ^ m)).take (t.length - 2 ^ m)) (v + 1)).1, (Sp.grow m l (t.take (2 ^ m)) (v + 1)).2) := by rw [Sp.grow_step rfl rfl, Sp.growJ, if_pos hc3]
        rw [e]
        all_goals rfl
      · intro hc3
        try simp only [bs] at hc3
        refine f_skip ?_
        refine f_seq ?_
        refine f_region ?_
        refine scons (CStep.step (PStep.c (p_move (y := .val _) rfl (Sees.of rfl) rfl)) rfl rfl rfl rfl) ?_
        refine scons (CStep.step (PStep.c (p_move (y := .val _) rfl (Sees.of rfl) rfl)) rfl rfl rfl rfl) ?_
        refine scons (CStep.step (PStep.c (p_move (y := .val _) rfl (Sees.of rfl) rfl)) rfl rfl rfl rfl) ?_
        refine scons (CStep.step (PStep.c (p_build rfl wDia3_plc96 wDia3_zer96 (by decide) wDia3_zch96 ⟨_, _, _, rfl, rfl, rfl, (Sees.of rfl), ⟨_, _, _, rfl, rfl, rfl, (Sees.of rfl), ⟨_, _, _, rfl, rfl, rfl, (Sees.of rfl), rfl⟩⟩⟩ rfl)) rfl rfl rfl rfl) ?_
        refine scons (r_alloc (ob := 10010) rfl wDia3_zer96 rfl rfl rfl rfl rfl rfl) ?_
        refine scons (r_storeS rfl wDia3_siz96 rfl rfl rfl (Sees.of rfl) rfl (Sees.of rfl) rfl rfl rfl rfl) ?_
        refine snil ?_
        refine f_seq ?_
        refine f_seq ?_
        refine f_region ?_
        refine scons (CStep.step (PStep.c (p_assign (y := .val _) rfl (Sees.of rfl) rfl)) rfl rfl rfl rfl) ?_
        refine snil ?_
        refine f_block ?_
        refine f_loop (α := Nat) (fun i => i ≤ (Sp.grow m (Sp.grow m l (t.take (2 ^ m)) (v + 1)).1 ((t.drop (2 ^ m)).take (t.length - 2 ^ m)) (v + 1)).1.length ∧ ∀ y ∈ (Sp.grow m (Sp.grow m l (t.take (2 ^ m)) (v + 1)).1 ((t.drop (2 ^ m)).take (t.length - 2 ^ m)) (v + 1)).1.take i, y ≠ (v, (Sp.grow m l (t.take (2 ^ m)) (v + 1)).2, (Sp.grow m (Sp.grow m l (t.take (2 ^ m)) (v + 1)).1 ((t.drop (2 ^ m)).take (t.length - 2 ^ m)) (v + 1)).2)) (fun i => [(11, iv i), (0, .val (chos (Sp.grow m (Sp.grow m l (t.take (2 ^ m)) (v + 1)).1 ((t.drop (2 ^ m)).take (t.length - 2 ^ m)) (v + 1)).1)), (10, .ref 10010 0 0), (10010, .box 0 (.ccons (iv v) (.ccons (iv (Sp.grow m l (t.take (2 ^ m)) (v + 1)).2) (.ccons (iv (Sp.grow m (Sp.grow m l (t.take (2 ^ m)) (v + 1)).1 ((t.drop (2 ^ m)).take (t.length - 2 ^ m)) (v + 1)).2) .cnil))))]) (fun i => (Sp.grow m (Sp.grow m l (t.take (2 ^ m)) (v + 1)).1 ((t.drop (2 ^ m)).take (t.length - 2 ^ m)) (v + 1)).1.length - i) 0 ?_ ?_ ?_
        · exact ⟨Nat.zero_le _, by simp⟩
        · exact le_ofL ⟨rfl, rfl, rfl, rfl, trivial⟩ rfl
        · rintro i ⟨hi, hne⟩
          refine f_seq ?_
          refine f_seq ?_
          refine f_region ?_
          refine scons (CStep.step (PStep.c (p_move (y := .val _) rfl (Sees.of rfl) rfl)) rfl rfl rfl rfl) ?_
          refine scons (CStep.step (PStep.c (p_move (y := .val _) rfl (Sees.of rfl) rfl)) rfl rfl rfl rfl) ?_
          refine scons (CStep.step (PStep.c (p_len rfl wDia3_isl39 (Sees.of rfl))) rfl rfl rfl rfl) ?_
          refine scons (CStep.step (PStep.c (p_lss rfl (Sees.of rfl) (Sees.of rfl))) rfl rfl rfl rfl) ?_
          refine snil ?_
          refine f_cond rfl ?_ ?_
          · intro hc4
            try simp only [bs] at hc4
            refine f_skip ?_
            refine f_seq ?_
            refine f_block ?_
            refine f_seq ?_
            refine f_draw wDia3_mix (by kernel_rfl) ?_
            refine dcons (CStep.step (PStep.c (p_move (y := .val _) rfl (Sees.of rfl) rfl)) rfl rfl rfl rfl) ?_
            refine dcons (CStep.step (PStep.c (p_move (y := .val _) rfl (Sees.of rfl) rfl)) rfl rfl rfl rfl) ?_
            refine dcons (CStep.step (PStep.c ((by first | exact p_indexN rfl wDia3_isl39 wDia3_siz96 (Sees.of rfl) (Sees.of rfl) (by omega) | exact p_index rfl wDia3_isl39 wDia3_siz96 (Sees.of rfl) (Sees.of rfl) (by omega) (by omega)))) rfl rfl rfl rfl) ?_
            refine dcons (CStep.step (PStep.c (p_loadS rfl wDia3_agg96 wDia3_siz96 (Sees.of rfl) ⟨rfl, fun h => R_len rfl h⟩)) rfl rfl rfl rfl) ?_
            refine dcons (CStep.step (PStep.c (p_loadBS rfl wDia3_agg96 wDia3_siz96 (Sees.of rfl) rfl rfl rfl)) rfl rfl rfl rfl) ?_
            refine dcons (CStep.step (PStep.c (p_eqlS3 rfl wDia3_eq396 (Sees.of rfl) (Sees.of rfl))) rfl rfl rfl rfl) ?_
            refine dnil (by kernel_rfl) ?_
            refine f_cond rfl ?_ ?_
            · intro hc5
              try simp only [bs] at hc5
              refine f_seq ?_
              refine f_region ?_
              refine scons (CStep.step (PStep.c (p_move (y := .val _) rfl (Sees.of rfl) rfl)) rfl rfl rfl rfl) ?_
              refine scons (CStep.step (PStep.c (p_move (y := .val _) rfl (Sees.of rfl) rfl)) rfl rfl rfl rfl) ?_
              refine scons (CStep.step (PStep.c (p_add rfl (Sees.of rfl) (Sees.of rfl) (by omega))) rfl rfl rfl rfl) ?_
              refine scons (CStep.step (PStep.c (p_assign (y := .val _) rfl (Sees.of rfl) rfl)) rfl rfl rfl rfl) ?_
              refine scons (CStep.step (PStep.c (p_assign (y := .val _) rfl (Sees.of rfl) rfl)) rfl rfl rfl rfl) ?_
              refine snil ?_
              refine f_ret ?_
              refine ends_ret (res_eq (res2 rfl (res_tmp rfl (Sees.of rfl)) (res_tmp rfl (Sees.of rfl))) ?_)
              have hk := Sp.known_at (L := (Sp.grow m (Sp.grow m l (t.take (2 ^ m)) (v + 1)).1 ((t.drop (2 ^ m)).take (t.length - 2 ^ m)) (v + 1)).1) (c := (v, (Sp.grow m l (t.take (2 ^ m)) (v + 1)).2, (Sp.grow m (Sp.grow m l (t.take (2 ^ m)) (v + 1)).1 ((t.drop (2 ^ m)).take (t.length - 2 ^ m)) (v + 1)).2)) (i := i) (by omega) (Prod.ext hc5.1 (Prod.ext hc5.2.1 hc5.2.2)) hne
              have e : Sp.grow (m + 1) l t v = ((Sp.grow m (Sp.grow m l (t.take (2 ^ m)) (v + 1)).1 ((t.drop (2 ^ m)).take (t.length - 2 ^ m)) (v + 1)).1, (i : Int) + 2) := by rw [Sp.grow_step rfl rfl, Sp.growJ, if_neg hc3, hk, if_pos (show (Option.some ((i : Int) + 2)).isSome = true from rfl), Option.getD_some]
              rw [e]
              all_goals rfl
            · intro hc5
              try simp only [bs] at hc5
              refine f_skip ?_
              refine f_nil ?_
              show AWs _ _ _ _ _
              refine f_region ?_
              refine scons (CStep.step (PStep.c (p_move (y := .val _) rfl (Sees.of rfl) rfl)) rfl rfl rfl rfl) ?_
              refine scons (CStep.step (PStep.c (p_add rfl (Sees.of rfl) (Sees.of rfl) (by omega))) rfl rfl rfl rfl) ?_
              refine scons (CStep.step (PStep.c (p_assign (y := .val _) rfl (Sees.of rfl) rfl)) rfl rfl rfl rfl) ?_
              refine snil ?_
              refine f_back ⟨i + 1, ?_, ?_, le_ofL ⟨rfl, rfl, rfl, rfl, trivial⟩ rfl⟩
              · exact ⟨by omega, Sp.step_all (z := (0, 0, 0)) (by omega) hne (fun e => by rw [e] at hc5; simp at hc5)⟩
              · omega
          · intro hc4
            try simp only [bs] at hc4
            refine f_exit ?_
            show AWs _ _ _ _ _
            refine f_seq ?_
            refine f_draw wDia3_mix (by kernel_rfl) ?_
            refine dcons (r_buildRow (f := dCho) (za := (0, 0, 0)) (xs := []) (by_ := 24) (ob := 10068) rfl rfl wDia3_isl39 wDia3_siz96 wDia3_zer96 rfl rfl (by decide) rfl rfl rfl rfl rfl rfl) ?_
            refine dcons (CStep.step (PStep.c (p_move (y := .val _) rfl (Sees.of rfl) rfl)) rfl rfl rfl rfl) ?_
            refine dcons (r_appendR (ob := 10070) rfl wDia3_isl39 wDia3_siz96 wDia3_byt96 wDia3_zer96 rfl rfl (Sees.of rfl) rfl (Sees.of rfl) (by simp only [List.length_cons, List.length_nil, List.length_append]; omega) (by simp only [List.length_cons, List.length_nil, List.length_append]; omega) rfl rfl rfl rfl rfl) ?_
            refine dcons (CStep.step (PStep.c (p_loadBS rfl wDia3_agg96 wDia3_siz96 (Sees.of rfl) rfl rfl rfl)) rfl rfl rfl rfl) ?_
            refine dcons (CStep.step (c_buildSlice (f := dCho) (za := (0, 0, 0)) (xs := [.tmp 71]) rfl rfl wDia3_isl39 wDia3_siz96 wDia3_zer96 rfl rfl ⟨(_, _, _), _, rfl, (Sees.of rfl), rfl, rfl, rfl⟩) rfl rfl rfl rfl) ?_
            refine dcons (r_appendR (ob := 10073) rfl wDia3_isl39 wDia3_siz96 wDia3_byt96 wDia3_zer96 rfl rfl (Sees.of rfl) rfl (Sees.of rfl) (by simp only [List.length_cons, List.length_nil, List.length_append]; omega) (by simp only [List.length_cons, List.length_nil, List.length_append]; omega) rfl rfl rfl rfl rfl) ?_
            refine dcons (CStep.step (PStep.c (p_move (y := .val _) rfl (Sees.of rfl) rfl)) rfl rfl rfl rfl) ?_
            refine dcons (CStep.step (PStep.c (p_len rfl wDia3_isl39 (Sees.of rfl))) rfl rfl rfl rfl) ?_
            refine dcons (CStep.step (PStep.c (p_add rfl (Sees.of rfl) (Sees.of rfl) (by omega))) rfl rfl rfl rfl) ?_
            refine dcons (CStep.step (PStep.c (p_assign (y := .row _ _) rfl (Sees.of rfl) rfl)) rfl rfl rfl rfl) ?_
            refine dcons (CStep.step (PStep.c (p_assign (y := .val _) rfl (Sees.of rfl) rfl)) rfl rfl rfl rfl) ?_
            refine dnil (by kernel_rfl) ?_
            refine f_ret ?_
            refine ends_ret (res_eq (res2 rfl (res_row rfl rfl rfl) (res_tmp rfl (Sees.of rfl))) ?_)
            have hk := (Sp.known_not (Sp.grow m (Sp.grow m l (t.take (2 ^ m)) (v + 1)).1 ((t.drop (2 ^ m)).take (t.length - 2 ^ m)) (v + 1)).1 (v, (Sp.grow m l (t.take (2 ^ m)) (v + 1)).2, (Sp.grow m (Sp.grow m l (t.take (2 ^ m)) (v + 1)).1 ((t.drop (2 ^ m)).take (t.length - 2 ^ m)) (v + 1)).2)).2 (fun h => hne _ (by rw [List.take_of_length_le (by omega)]; exact h) rfl)
            have e : Sp.grow (m + 1) l t v = ((Sp.grow m (Sp.grow m l (t.take (2 ^ m)) (v + 1)).1 ((t.drop (2 ^ m)).take (t.length - 2 ^ m)) (v + 1)).1 ++ [(v, (Sp.grow m l (t.take (2 ^ m)) (v + 1)).2, (Sp.grow m (Sp.grow m l (t.take (2 ^ m)) (v + 1)).1 ((t.drop (2 ^ m)).take (t.length - 2 ^ m)) (v + 1)).2)], ((Sp.grow m (Sp.grow m l (t.take (2 ^ m)) (v + 1)).1 ((t.drop (2 ^ m)).take (t.length - 2 ^ m)) (v + 1)).1.length : Int) + 2) := by rw [Sp.grow_step rfl rfl, Sp.growJ, if_neg hc3, hk, if_neg (by decide)]
            rw [e]
            all_goals rfl

theorem DiaOf_spec (n : Nat) (t : List Bool) (hn : n ≤ 16) (ht : t.length = 2 ^ n) :
    Spec Go.Proofs.Try.prog 27 [.val (bools t)] (dia (Sp.grow n [] t 1).1 (Sp.grow n [] t 1).2) := by
  refine spec_of' Go.Proofs.Try.func27 rfl Go.Proofs.Try.ntmps27 rfl ?_
  refine f_seq ?_
  have hp16 := Sp.pow16 hn
  refine f_region ?_
  refine scons (r_alloc (ob := 10002) rfl wDia3_zer41 rfl rfl rfl rfl rfl rfl) ?_
  refine snil ?_
  refine f_seq ?_
  refine f_region ?_
  refine scons (CStep.step (PStep.c (p_move (y := .val _) rfl (Sees.of rfl) rfl)) rfl rfl rfl rfl) ?_
  refine scons (CStep.step (c_call rfl wDia3_isf57 ⟨_, _, rfl, (Sees.emp rfl _ _ _), rfl, ⟨_, _, rfl, (Sees.of rfl), rfl, ⟨_, _, rfl, (Sees.of rfl), rfl, rfl⟩⟩⟩ (grow_spec (n + 1) n [] t 1 (by omega) ht hn (by omega) (by simp; omega))) rfl rfl rfl rfl) ?_
  refine scons (CStep.step (PStep.c (p_move (y := .val _) rfl (Sees.of rfl) rfl)) rfl rfl rfl rfl) ?_
  refine scons (CStep.step (PStep.c (p_extract rfl (Sees.of rfl) rfl)) rfl rfl rfl rfl) ?_
  refine scons (CStep.step (PStep.c (p_extract rfl (Sees.of rfl) rfl)) rfl rfl rfl rfl) ?_
  refine scons (CStep.step (PStep.c (p_assign (y := .val _) rfl (Sees.of rfl) rfl)) rfl rfl rfl rfl) ?_
  refine scons (CStep.step (PStep.c (p_assign (y := .val _) rfl (Sees.of rfl) rfl)) rfl rfl rfl rfl) ?_
  refine snil ?_
  refine f_seq ?_
  refine f_region ?_
  refine scons (CStep.step (PStep.c (p_move (y := .val _) rfl (Sees.of rfl) rfl)) rfl rfl rfl rfl) ?_
  refine scons (CStep.step (PStep.c (p_move (y := .val _) rfl (Sees.of rfl) rfl)) rfl rfl rfl rfl) ?_
  refine scons (CStep.step (PStep.c (p_build rfl wDia3_plc41 wDia3_zer41 (by decide) wDia3_zch41 ⟨_, _, _, rfl, rfl, rfl, (Sees.of rfl), ⟨_, _, _, rfl, rfl, rfl, (Sees.of rfl), rfl⟩⟩ rfl)) rfl rfl rfl rfl) ?_
  refine scons (r_storeS rfl wDia3_siz41 rfl rfl rfl (Sees.of rfl) rfl (Sees.of rfl) rfl rfl rfl rfl) ?_
  refine snil ?_
  refine f_ret ?_
  refine ends_ret (res_eq (res1 rfl (res_cell (by rfl) rfl rfl wDia3_agg41 wDia3_siz41 rfl rfl)) ?_)
  rfl

theorem DiaSame_spec (l : List Sp.Cho) (r : Int) (l' : List Sp.Cho) (r' : Int) :
    Spec Go.Proofs.Try.prog 26 [.val (dia l r), .val (dia l' r')] (D.bool (decide (l = l' ∧ r = r'))) := by
  refine spec_of' Go.Proofs.Try.func26 rfl Go.Proofs.Try.ntmps26 rfl ?_
  refine f_seq ?_
  refine f_wf (.tmp 0) rfl (fun hwf => ?_) (by simp)
  have hlen : l.length ≤ 140737488355328 := hwf.1.1
  clear hwf
  refine f_region ?_
  refine scons (r_box (ob := 10002) rfl (Sees.of rfl) rfl rfl rfl rfl rfl rfl) ?_
  refine scons (r_box (ob := 10003) rfl (Sees.of rfl) rfl rfl rfl rfl rfl rfl) ?_
  refine scons (CStep.step (PStep.c (p_assign (y := .val _) rfl (Sees.of rfl) rfl)) rfl rfl rfl rfl) ?_
  refine snil ?_
  refine f_seq ?_
  refine f_seq ?_
  refine f_region ?_
  refine scons (CStep.step (PStep.c (p_fieldRef rfl wDia3_fld41_1 wDia3_siz3 rfl (Sees.of rfl) rfl)) rfl rfl rfl rfl) ?_
  refine scons (CStep.step (PStep.c (p_loadB (y := .val _) rfl wDia3_agg3 (Sees.of rfl) rfl rfl rfl rfl)) rfl rfl rfl rfl) ?_
  refine scons (CStep.step (PStep.c (p_fieldRef rfl wDia3_fld41_1 wDia3_siz3 rfl (Sees.of rfl) rfl)) rfl rfl rfl rfl) ?_
  refine scons (CStep.step (PStep.c (p_loadB (y := .val _) rfl wDia3_agg3 (Sees.of rfl) rfl rfl rfl rfl)) rfl rfl rfl rfl) ?_
  refine scons (CStep.step (PStep.c (p_neq rfl (Sees.of rfl) (Sees.of rfl))) rfl rfl rfl rfl) ?_
  refine scons (CStep.step (PStep.c (p_move (y := .val _) rfl (Sees.of rfl) rfl)) rfl rfl rfl rfl) ?_
  refine scons (CStep.guard rfl rfl rfl (fun hg0 => PStep.c (p_fieldRef rfl wDia3_fld41_0 wDia3_siz39 rfl (Sees.of rfl) rfl)) rfl rfl rfl rfl rfl) ?_
  refine scons (CStep.guard rfl rfl rfl (fun hg0 => PStep.c (p_loadB (y := .val _) rfl wDia3_agg39 (Sees.gv' rfl hg0) rfl rfl rfl rfl)) rfl rfl rfl rfl rfl) ?_
  refine scons (CStep.guard rfl rfl rfl (fun hg0 => PStep.c (p_len rfl wDia3_isl39 (Sees.gv' rfl hg0))) rfl rfl rfl rfl rfl) ?_
  refine scons (CStep.guard rfl rfl rfl (fun hg0 => PStep.c (p_fieldRef rfl wDia3_fld41_0 wDia3_siz39 rfl (Sees.of rfl) rfl)) rfl rfl rfl rfl rfl) ?_
  refine scons (CStep.guard rfl rfl rfl (fun hg0 => PStep.c (p_loadB (y := .val _) rfl wDia3_agg39 (Sees.gv' rfl hg0) rfl rfl rfl rfl)) rfl rfl rfl rfl rfl) ?_
  refine scons (CStep.guard rfl rfl rfl (fun hg0 => PStep.c (p_len rfl wDia3_isl39 (Sees.gv' rfl hg0))) rfl rfl rfl rfl rfl) ?_
  refine scons (CStep.guard rfl rfl rfl (fun hg0 => PStep.c (p_neq rfl (Sees.gv' rfl hg0) (Sees.gv' rfl hg0))) rfl rfl rfl rfl rfl) ?_
  refine scons (CStep.step (PStep.c (p_or rfl (Sees.of rfl) (Sees.of rfl) (fun h => Sees.gv' rfl (beq_of_eq h)))) rfl rfl rfl rfl) ?_
  refine snil ?_
  refine f_cond rfl ?_ ?_
  · intro hc1
    try simp only [bs] at hc1
    refine f_seq ?_
    refine f_region ?_
    refine scons (CStep.step (PStep.c (p_assign (y := .val _) rfl (Sees.of rfl) rfl)) rfl rfl rfl rfl) ?_
    refine snil ?_
    refine f_ret ?_
    refine ends_ret (res_eq (res1 rfl (res_tmp rfl (Sees.of rfl))) ?_)
    rw [decide_eq_false (fun h => by rw [h.1, h.2] at hc1; simp at hc1)]
  · intro hc1
    try simp only [bs] at hc1
    refine f_skip ?_
    refine f_seq ?_
    refine f_seq ?_
    refine f_region ?_
    refine scons (CStep.step (PStep.c (p_assign (y := .val _) rfl (Sees.of rfl) rfl)) rfl rfl rfl rfl) ?_
    refine snil ?_
    refine f_block ?_
    refine f_loop (α := Nat) (fun i => i ≤ l.length ∧ ∀ j, j < i → l.getD j (0, 0, 0) = l'.getD j (0, 0, 0)) (fun i => [(5, iv i), (2, .ref 10002 0 0), (3, .ref 10003 0 0), (10002, .box 0 (.ccons (.val (chos l)) (.ccons (iv r) .cnil))), (10003, .box 0 (.ccons (.val (chos l')) (.ccons (iv r') .cnil)))]) (fun i => l.length - i) 0 ?_ ?_ ?_
    · exact ⟨Nat.zero_le _, fun j hj => absurd hj (Nat.not_lt_zero _)⟩
    · exact le_ofL ⟨rfl, rfl, rfl, rfl, rfl, trivial⟩ rfl
    · rintro i ⟨hi, hp⟩
      refine f_seq ?_
      refine f_seq ?_
      refine f_region ?_
      refine scons (CStep.step (PStep.c (p_move (y := .val _) rfl (Sees.of rfl) rfl)) rfl rfl rfl rfl) ?_
      refine scons (CStep.step (PStep.c (p_fieldRef rfl wDia3_fld41_0 wDia3_siz39 rfl (Sees.of rfl) rfl)) rfl rfl rfl rfl) ?_
      refine scons (CStep.step (PStep.c (p_loadB (y := .val _) rfl wDia3_agg39 (Sees.of rfl) rfl rfl rfl rfl)) rfl rfl rfl rfl) ?_
      refine scons (CStep.step (PStep.c (p_len rfl wDia3_isl39 (Sees.of rfl))) rfl rfl rfl rfl) ?_
      refine scons (CStep.step (PStep.c (p_lss rfl (Sees.of rfl) (Sees.of rfl))) rfl rfl rfl rfl) ?_
      refine snil ?_
      refine f_cond rfl ?_ ?_
      · intro hc2
        try simp only [bs] at hc2
        refine f_skip ?_
        refine f_seq ?_
        refine f_block ?_
        refine f_seq ?_
        refine f_draw wDia3_mix (by kernel_rfl) ?_
        refine dcons (CStep.step (PStep.c (p_fieldRef rfl wDia3_fld41_0 wDia3_siz39 rfl (Sees.of rfl) rfl)) rfl rfl rfl rfl) ?_
        refine dcons (CStep.step (PStep.c (p_loadB (y := .val _) rfl wDia3_agg39 (Sees.of rfl) rfl rfl rfl rfl)) rfl rfl rfl rfl) ?_
        refine dcons (CStep.step (PStep.c (p_move (y := .val _) rfl (Sees.of rfl) rfl)) rfl rfl rfl rfl) ?_
        refine dcons (CStep.step (PStep.c ((by first | exact p_indexN rfl wDia3_isl39 wDia3_siz96 (Sees.of rfl) (Sees.of rfl) (by omega) | exact p_index rfl wDia3_isl39 wDia3_siz96 (Sees.of rfl) (Sees.of rfl) (by omega) (by omega)))) rfl rfl rfl rfl) ?_
        refine dcons (CStep.step (PStep.c (p_loadS rfl wDia3_agg96 wDia3_siz96 (Sees.of rfl) ⟨rfl, fun h => R_len rfl h⟩)) rfl rfl rfl rfl) ?_
        refine dcons (CStep.step (PStep.c (p_fieldRef rfl wDia3_fld41_0 wDia3_siz39 rfl (Sees.of rfl) rfl)) rfl rfl rfl rfl) ?_
        refine dcons (CStep.step (PStep.c (p_loadB (y := .val _) rfl wDia3_agg39 (Sees.of rfl) rfl rfl rfl rfl)) rfl rfl rfl rfl) ?_
        refine dcons (CStep.step (PStep.c (p_move (y := .val _) rfl (Sees.of rfl) rfl)) rfl rfl rfl rfl) ?_
        refine dcons (CStep.step (PStep.c ((by first | exact p_indexN rfl wDia3_isl39 wDia3_siz96 (Sees.of rfl) (Sees.of rfl) (by omega) | exact p_index rfl wDia3_isl39 wDia3_siz96 (Sees.of rfl) (Sees.of rfl) (by omega) (by omega)))) rfl rfl rfl rfl) ?_
        refine dcons (CStep.step (PStep.c (p_loadS rfl wDia3_agg96 wDia3_siz96 (Sees.of rfl) ⟨rfl, fun h => R_len rfl h⟩)) rfl rfl rfl rfl) ?_
        refine dcons (CStep.step (PStep.c (p_neqS3 rfl wDia3_eq396 (Sees.of rfl) (Sees.of rfl))) rfl rfl rfl rfl) ?_
        refine dnil (by kernel_rfl) ?_
        refine f_cond rfl ?_ ?_
        · intro hc3
          try simp only [bs] at hc3
          refine f_seq ?_
          refine f_region ?_
          refine scons (CStep.step (PStep.c (p_assign (y := .val _) rfl (Sees.of rfl) rfl)) rfl rfl rfl rfl) ?_
          refine snil ?_
          refine f_ret ?_
          refine ends_ret (res_eq (res1 rfl (res_tmp rfl (Sees.of rfl))) ?_)
          rw [decide_eq_false (fun h => by rw [h.1] at hc3; simp at hc3)]
        · intro hc3
          try simp only [bs] at hc3
          refine f_skip ?_
          refine f_nil ?_
          show AWs _ _ _ _ _
          refine f_region ?_
          refine scons (CStep.step (PStep.c (p_move (y := .val _) rfl (Sees.of rfl) rfl)) rfl rfl rfl rfl) ?_
          refine scons (CStep.step (PStep.c (p_add rfl (Sees.of rfl) (Sees.of rfl) (by omega))) rfl rfl rfl rfl) ?_
          refine scons (CStep.step (PStep.c (p_assign (y := .val _) rfl (Sees.of rfl) rfl)) rfl rfl rfl rfl) ?_
          refine snil ?_
          refine f_back ⟨i + 1, ?_, ?_, le_ofL ⟨rfl, rfl, rfl, rfl, rfl, trivial⟩ rfl⟩
          · refine ⟨by omega, fun j hj => ?_⟩
            by_cases e : j = i
            · rw [e]; exact Prod.ext hc3.1 (Prod.ext hc3.2.1 hc3.2.2)
            · exact hp j (by omega)
          · omega
      · intro hc2
        try simp only [bs] at hc2
        refine f_exit ?_
        show AWs _ _ _ _ _
        refine f_seq ?_
        refine f_region ?_
        refine scons (CStep.step (PStep.c (p_assign (y := .val _) rfl (Sees.of rfl) rfl)) rfl rfl rfl rfl) ?_
        refine snil ?_
        refine f_ret ?_
        refine ends_ret (res_eq (res1 rfl (res_tmp rfl (Sees.of rfl))) ?_)
        rw [decide_eq_true ⟨Sp.eq_of_getD (by omega) (by omega) hp, hc1.1⟩]

theorem DiaNone_spec (l : List Sp.Cho) (r : Int) :
    Spec Go.Proofs.Try.prog 23 [.val (dia l r)] (D.bool (decide (r = 0) && decide ((l.length : Int) = 0))) := by
  refine spec_of' Go.Proofs.Try.func23 rfl Go.Proofs.Try.ntmps23 rfl ?_
  refine f_seq ?_
  refine f_region ?_
  refine scons (r_box (ob := 10001) rfl (Sees.of rfl) rfl rfl rfl rfl rfl rfl) ?_
  refine scons (CStep.step (PStep.c (p_assign (y := .val _) rfl (Sees.of rfl) rfl)) rfl rfl rfl rfl) ?_
  refine snil ?_
  refine f_seq ?_
  refine f_region ?_
  refine scons (CStep.step (PStep.c (p_fieldRef rfl wDia3_fld41_1 wDia3_siz3 rfl (Sees.of rfl) rfl)) rfl rfl rfl rfl) ?_
  refine scons (CStep.step (PStep.c (p_loadB (y := .val _) rfl wDia3_agg3 (Sees.of rfl) rfl rfl rfl rfl)) rfl rfl rfl rfl) ?_
  refine scons (CStep.step (PStep.c (p_eql rfl (Sees.of rfl) (Sees.of rfl))) rfl rfl rfl rfl) ?_
  refine scons (CStep.step (PStep.c (p_move (y := .val _) rfl (Sees.of rfl) rfl)) rfl rfl rfl rfl) ?_
  refine scons (CStep.guard rfl rfl rfl (fun hg0 => PStep.c (p_fieldRef rfl wDia3_fld41_0 wDia3_siz39 rfl (Sees.of rfl) rfl)) rfl rfl rfl rfl rfl) ?_
  refine scons (CStep.guard rfl rfl rfl (fun hg0 => PStep.c (p_loadB (y := .val _) rfl wDia3_agg39 (Sees.gv' rfl hg0) rfl rfl rfl rfl)) rfl rfl rfl rfl rfl) ?_
  refine scons (CStep.guard rfl rfl rfl (fun hg0 => PStep.c (p_len rfl wDia3_isl39 (Sees.gv' rfl hg0))) rfl rfl rfl rfl rfl) ?_
  refine scons (CStep.guard rfl rfl rfl (fun hg0 => PStep.c (p_eql rfl (Sees.gv' rfl hg0) (Sees.of rfl))) rfl rfl rfl rfl rfl) ?_
  refine scons (CStep.step (PStep.c (p_and rfl (Sees.of rfl) (fun h => Sees.gv' rfl (beq_of_eq h)) (Sees.of rfl))) rfl rfl rfl rfl) ?_
  refine scons (CStep.step (PStep.c (p_assign (y := .val _) rfl (Sees.of rfl) rfl)) rfl rfl rfl rfl) ?_
  refine snil ?_
  refine f_ret ?_
  refine ends_ret (res_eq (res1 rfl (res_tmp rfl (Sees.of rfl))) ?_)
  rfl

theorem of1_spec (n : Int) (ls : List (List Int)) (a : List Bool) (hG : ∀ l ∈ ls, Sp.Good a.length l) :
    Spec Go.Proofs.Try.prog 54 [.val (bools a), .ptr (cnf n ls)] (D.bool (Sp.all a ls)) := by
  refine spec_of' Go.Proofs.Try.func54 rfl Go.Proofs.Try.ntmps54 rfl ?_
  refine f_seq ?_
  refine f_region ?_
  refine scons (CStep.step (PStep.c (p_assign (y := .val _) rfl (Sees.of rfl) rfl)) rfl rfl rfl rfl) ?_
  refine snil ?_
  refine f_seq ?_
  refine f_region ?_
  refine scons (CStep.step (PStep.c (p_fieldAddr rfl wDia3_fld24_1 wDia3_siz22 (by decide) (Sees.of rfl) rfl rfl)) rfl rfl rfl rfl) ?_
  refine scons (CStep.step (PStep.c (p_load rfl wDia3_agg22 (Sees.of rfl) rfl)) rfl rfl rfl rfl) ?_
  refine scons (CStep.step (PStep.c (p_move (y := .val _) rfl (Sees.of rfl) rfl)) rfl rfl rfl rfl) ?_
  refine scons (CStep.step (c_call rfl wDia3_isf55 ⟨_, _, rfl, (Sees.of rfl), rfl, ⟨_, _, rfl, (Sees.of rfl), rfl, rfl⟩⟩ (call_spec ls a hG)) rfl rfl rfl rfl) ?_
  refine scons (CStep.step (PStep.c (p_assign (y := .val _) rfl (Sees.of rfl) rfl)) rfl rfl rfl rfl) ?_
  refine snil ?_
  refine f_ret ?_
  refine ends_ret (res_eq (res1 rfl (res_tmp rfl (Sees.of rfl))) ?_)
  rfl

theorem Of_spec (n : Int) (ls : List (List Int)) :
    Spec Go.Proofs.Try.prog 22 [.val (cnf n ls)] (two (dia (Sp.diaOf n ls).1 (Sp.diaOf n ls).2.1) (fault (Sp.diaOf n ls).2.2.1 (Sp.diaOf n ls).2.2.2)) := by
  refine spec_of' Go.Proofs.Try.func22 rfl Go.Proofs.Try.ntmps22 rfl ?_
  refine f_seq ?_
  refine f_region ?_
  refine scons (r_box (ob := 10001) rfl (Sees.of rfl) rfl rfl rfl rfl rfl rfl) ?_
  refine scons (r_alloc (ob := 10002) rfl wDia3_zer41 rfl rfl rfl rfl rfl rfl) ?_
  refine scons (r_alloc (ob := 10003) rfl wDia3_zer28 rfl rfl rfl rfl rfl rfl) ?_
  refine snil ?_
  refine f_seq ?_
  refine f_seq ?_
  refine f_region ?_
  refine scons (CStep.step (PStep.c (p_loadBS rfl wDia3_agg24 wDia3_siz24 (Sees.of rfl) rfl rfl rfl)) rfl rfl rfl rfl) ?_
  refine scons (CStep.step (c_call rfl wDia3_isf51 ⟨_, _, rfl, (Sees.of rfl), rfl, rfl⟩ (ccheck_spec n ls)) rfl rfl rfl rfl) ?_
  refine scons (r_alloc (ob := 10004) rfl wDia3_zer28 rfl rfl rfl rfl rfl rfl) ?_
  refine scons (r_storeS rfl wDia3_siz28 rfl rfl rfl (Sees.of rfl) rfl (Sees.of rfl) rfl rfl rfl rfl) ?_
  refine snil ?_
  refine f_seq ?_
  refine f_region ?_
  refine scons (CStep.step (PStep.c (p_fieldRef rfl wDia3_fld28_0 wDia3_siz3 rfl (Sees.of rfl) rfl)) rfl rfl rfl rfl) ?_
  refine scons (CStep.step (PStep.c (p_loadB (y := .val _) rfl wDia3_agg3 (Sees.of rfl) rfl rfl rfl rfl)) rfl rfl rfl rfl) ?_
  refine scons (CStep.step (PStep.c (p_neq rfl (Sees.of rfl) (Sees.of rfl))) rfl rfl rfl rfl) ?_
  refine snil ?_
  refine f_cond rfl ?_ ?_
  · intro hc1
    try simp only [bs] at hc1
    refine f_seq ?_
    refine f_draw wDia3_mix (by kernel_rfl) ?_
    refine dcons (CStep.step (PStep.c (p_build rfl wDia3_plc41 wDia3_zer41 (by decide) wDia3_zch41 rfl rfl)) rfl rfl rfl rfl) ?_
    refine dcons (CStep.step (PStep.c (p_loadBS rfl wDia3_agg28 wDia3_siz28 (Sees.of rfl) rfl rfl rfl)) rfl rfl rfl rfl) ?_
    refine dcons (r_storeS rfl wDia3_siz41 rfl rfl rfl (Sees.of rfl) rfl (Sees.of rfl) rfl rfl rfl rfl) ?_
    refine dcons (r_storeS rfl wDia3_siz28 rfl rfl rfl (Sees.of rfl) rfl (Sees.of rfl) rfl rfl rfl rfl) ?_
    refine dnil (by kernel_rfl) ?_
    refine f_ret ?_
    refine ends_ret (res_eq (res2 rfl (res_cell (by rfl) rfl rfl wDia3_agg41 wDia3_siz41 rfl rfl) (res_cell (by rfl) rfl rfl wDia3_agg28 wDia3_siz28 rfl rfl)) ?_)
    rw [Sp.diaOf, if_pos hc1]
    all_goals rfl
  · intro hc1
    try simp only [bs] at hc1
    refine f_skip ?_
    refine f_seq ?_
    refine f_seq ?_
    refine f_region ?_
    refine scons (CStep.step (PStep.c (p_fieldRef rfl wDia3_fld24_0 wDia3_siz3 rfl (Sees.of rfl) rfl)) rfl rfl rfl rfl) ?_
    refine scons (CStep.step (PStep.c (p_loadB (y := .val _) rfl wDia3_agg3 (Sees.of rfl) rfl rfl rfl rfl)) rfl rfl rfl rfl) ?_
    refine scons (CStep.step (PStep.c (p_gtr rfl (Sees.of rfl) (Sees.of rfl))) rfl rfl rfl rfl) ?_
    refine snil ?_
    refine f_cond rfl ?_ ?_
    · intro hc2
      try simp only [bs] at hc2
      refine f_seq ?_
      refine f_region ?_
      refine scons (CStep.step (PStep.c (p_build rfl wDia3_plc41 wDia3_zer41 (by decide) wDia3_zch41 rfl rfl)) rfl rfl rfl rfl) ?_
      refine scons (CStep.step (PStep.c (p_build rfl wDia3_plc28 wDia3_zer28 (by decide) wDia3_zch28 ⟨_, _, _, rfl, rfl, rfl, (Sees.of rfl), ⟨_, _, _, rfl, rfl, rfl, (Sees.of rfl), rfl⟩⟩ rfl)) rfl rfl rfl rfl) ?_
      refine scons (r_storeS rfl wDia3_siz41 rfl rfl rfl (Sees.of rfl) rfl (Sees.of rfl) rfl rfl rfl rfl) ?_
      refine scons (r_storeS rfl wDia3_siz28 rfl rfl rfl (Sees.of rfl) rfl (Sees.of rfl) rfl rfl rfl rfl) ?_
      refine snil ?_
      refine f_ret ?_
      refine ends_ret (res_eq (res2 rfl (res_cell (by rfl) rfl rfl wDia3_agg41 wDia3_siz41 rfl rfl) (res_cell (by rfl) rfl rfl wDia3_agg28 wDia3_siz28 rfl rfl)) ?_)
      rw [Sp.diaOf, if_neg (fun h => h hc1), if_pos (by omega)]
      all_goals rfl
    · intro hc2
      try simp only [bs] at hc2
      obtain ⟨m, rfl⟩ : ∃ m : Nat, n = (m : Int) := ⟨n.toNat, by have := Sp.check_ok hc1; omega⟩
      refine f_skip ?_
      refine f_seq ?_
      refine f_region ?_
      refine scons (CStep.step (PStep.c (p_fieldRef rfl wDia3_fld24_0 wDia3_siz3 rfl (Sees.of rfl) rfl)) rfl rfl rfl rfl) ?_
      refine scons (CStep.step (PStep.c (p_loadB (y := .val _) rfl wDia3_agg3 (Sees.of rfl) rfl rfl rfl rfl)) rfl rfl rfl rfl) ?_
      refine scons (CStep.step (PStep.c (p_makeFunc (l := [.tmp 1]) rfl)) rfl rfl rfl rfl) ?_
      refine scons (r_callS (q := true) (ob := 10020) 0 rfl wDia3_isf53 (Made_spec m (fun a => Sp.all a ls) (by omega)) (sa_cons (sh_of (Sees.of rfl) rfl) (sa_cons (sh_clo (Sees.of rfl) wDia3_isf54 (sl_cons (sh_refS Sees.same rfl (shc_cons (sh_of Sees.same rfl) (shc_cons (sh_of Sees.same rfl) (shc_nil)))) (sl_nil)) (fun _ => rfl) (fun _ => rfl) (fun a => of1_spec m ls a.1 (fun l hl => by rw [a.2]; exact Sp.check_good hc1 rfl l hl))) (sa_nil))) (.inr (fun _ => rfl)) rfl rfl rfl rfl rfl) ?_
      refine scons (LStep.pre (g_freeze (k := 20) (o1 := 10020) rfl rfl rfl rfl) (CStep.step (c_call rfl wDia3_isf52 ⟨_, _, rfl, (Sees.of rfl), rfl, rfl⟩ (Built_spec m (Sp.dtab (fun a => Sp.all a ls) m) (by omega) (Sp.dtab_len _ _))) rfl rfl rfl rfl)) ?_
      refine scons (CStep.step (PStep.c (p_extract rfl (Sees.of rfl) rfl)) rfl rfl rfl rfl) ?_
      refine scons (CStep.step (PStep.c (p_extract rfl (Sees.of rfl) rfl)) rfl rfl rfl rfl) ?_
      refine scons (r_storeS rfl wDia3_siz41 rfl rfl rfl (Sees.of rfl) rfl (Sees.of rfl) rfl rfl rfl rfl) ?_
      refine scons (r_storeS rfl wDia3_siz28 rfl rfl rfl (Sees.of rfl) rfl (Sees.of rfl) rfl rfl rfl rfl) ?_
      refine snil ?_
      refine f_ret ?_
      refine ends_ret (res_eq (res2 rfl (res_cell (by rfl) rfl rfl wDia3_agg41 wDia3_siz41 rfl rfl) (res_cell (by rfl) rfl rfl wDia3_agg28 wDia3_siz28 rfl rfl)) ?_)
      rw [Sp.diaOf, if_neg (fun h => h hc1), if_neg (by omega)]
      all_goals rfl

theorem tryWrong_spec (n : Int) (ls : List (List Int)) :
    Spec Go.Proofs.Try.prog 17 [.val (cnf n ls)] (fault (Sp.tryWrong n ls).1 (Sp.tryWrong n ls).2) := by
  refine spec_of' Go.Proofs.Try.func17 rfl Go.Proofs.Try.ntmps17 rfl ?_
  refine f_seq ?_
  refine f_region ?_
  refine scons (r_box (ob := 10001) rfl (Sees.of rfl) rfl rfl rfl rfl rfl rfl) ?_
  refine scons (r_alloc (ob := 10002) rfl wDia3_zer28 rfl rfl rfl rfl rfl rfl) ?_
  refine snil ?_
  refine f_seq ?_
  refine f_region ?_
  refine scons (CStep.step (PStep.c (p_loadBS rfl wDia3_agg24 wDia3_siz24 (Sees.of rfl) rfl rfl rfl)) rfl rfl rfl rfl) ?_
  refine scons (CStep.step (c_call rfl wDia3_isf50 ⟨_, _, rfl, (Sees.of rfl), rfl, rfl⟩ (check_spec n ls)) rfl rfl rfl rfl) ?_
  refine scons (r_alloc (ob := 10003) rfl wDia3_zer28 rfl rfl rfl rfl rfl rfl) ?_
  refine scons (r_storeS rfl wDia3_siz28 rfl rfl rfl (Sees.of rfl) rfl (Sees.of rfl) rfl rfl rfl rfl) ?_
  refine snil ?_
  refine f_seq ?_
  refine f_seq ?_
  refine f_region ?_
  refine scons (CStep.step (PStep.c (p_fieldRef rfl wDia3_fld28_0 wDia3_siz3 rfl (Sees.of rfl) rfl)) rfl rfl rfl rfl) ?_
  refine scons (CStep.step (PStep.c (p_loadB (y := .val _) rfl wDia3_agg3 (Sees.of rfl) rfl rfl rfl rfl)) rfl rfl rfl rfl) ?_
  refine scons (CStep.step (PStep.c (p_eql rfl (Sees.of rfl) (Sees.of rfl))) rfl rfl rfl rfl) ?_
  refine scons (CStep.step (PStep.c (p_move (y := .val _) rfl (Sees.of rfl) rfl)) rfl rfl rfl rfl) ?_
  refine scons (CStep.guard rfl rfl rfl (fun hg0 => PStep.c (p_fieldRef rfl wDia3_fld24_0 wDia3_siz3 rfl (Sees.of rfl) rfl)) rfl rfl rfl rfl rfl) ?_
  refine scons (CStep.guard rfl rfl rfl (fun hg0 => PStep.c (p_loadB (y := .val _) rfl wDia3_agg3 (Sees.gv' rfl hg0) rfl rfl rfl rfl)) rfl rfl rfl rfl rfl) ?_
  refine scons (CStep.guard rfl rfl rfl (fun hg0 => PStep.c (p_gtr rfl (Sees.gv' rfl hg0) (Sees.of rfl))) rfl rfl rfl rfl rfl) ?_
  refine scons (CStep.step (PStep.c (p_and rfl (Sees.of rfl) (fun h => Sees.gv' rfl (beq_of_eq h)) (Sees.of rfl))) rfl rfl rfl rfl) ?_
  refine snil ?_
  refine f_cond rfl ?_ ?_
  · intro hc1
    try simp only [bs] at hc1
    refine f_region ?_
    refine scons (CStep.step (PStep.c (p_build rfl wDia3_plc28 wDia3_zer28 (by decide) wDia3_zch28 ⟨_, _, _, rfl, rfl, rfl, (Sees.of rfl), ⟨_, _, _, rfl, rfl, rfl, (Sees.of rfl), rfl⟩⟩ rfl)) rfl rfl rfl rfl) ?_
    refine scons (r_storeS rfl wDia3_siz28 rfl rfl rfl (Sees.of rfl) rfl (Sees.of rfl) rfl rfl rfl rfl) ?_
    refine snil ?_
    refine f_seq ?_
    refine f_region ?_
    refine scons (CStep.step (PStep.c (p_loadBS rfl wDia3_agg28 wDia3_siz28 (Sees.of rfl) rfl rfl rfl)) rfl rfl rfl rfl) ?_
    refine scons (r_storeS rfl wDia3_siz28 rfl rfl rfl (Sees.of rfl) rfl (Sees.of rfl) rfl rfl rfl rfl) ?_
    refine snil ?_
    refine f_ret ?_
    refine ends_ret (res_eq (res1 rfl (res_cell (by rfl) rfl rfl wDia3_agg28 wDia3_siz28 rfl rfl)) ?_)
    rw [Sp.tryWrong, if_pos ⟨hc1.1, by omega⟩]
    all_goals rfl
  · intro hc1
    try simp only [bs] at hc1
    refine f_skip ?_
    refine f_seq ?_
    refine f_region ?_
    refine scons (CStep.step (PStep.c (p_loadBS rfl wDia3_agg28 wDia3_siz28 (Sees.of rfl) rfl rfl rfl)) rfl rfl rfl rfl) ?_
    refine scons (r_storeS rfl wDia3_siz28 rfl rfl rfl (Sees.of rfl) rfl (Sees.of rfl) rfl rfl rfl rfl) ?_
    refine snil ?_
    refine f_ret ?_
    refine ends_ret (res_eq (res1 rfl (res_cell (by rfl) rfl rfl wDia3_agg28 wDia3_siz28 rfl rfl)) ?_)
    rw [Sp.tryWrong, if_neg (by omega)]
    all_goals rfl

theorem diaSure_spec  :
    Spec Go.Proofs.Try.prog 28 [] (D.bool true) := by
  refine spec_of' Go.Proofs.Try.func28 rfl Go.Proofs.Try.ntmps28 rfl ?_
  refine f_seq ?_
  refine f_region ?_
  refine scons (CStep.step (PStep.c (p_assign (y := .val _) rfl (Sees.of rfl) rfl)) rfl rfl rfl rfl) ?_
  refine snil ?_
  refine f_seq ?_
  refine f_region ?_
  refine scons (CStep.step (c_buildSlice (f := di) (za := 0) (xs := [.const (.int .i64 1)]) rfl rfl wDia3_isl32 wDia3_siz3 wDia3_zer3 rfl rfl ⟨_, _, rfl, (Sees.of rfl), rfl, rfl, rfl⟩) rfl rfl rfl rfl) ?_
  refine scons (CStep.step (c_buildSlice (f := di) (za := 0) (xs := [.const (.int .i64 2)]) rfl rfl wDia3_isl32 wDia3_siz3 wDia3_zer3 rfl rfl ⟨_, _, rfl, (Sees.of rfl), rfl, rfl, rfl⟩) rfl rfl rfl rfl) ?_
  refine scons (CStep.step (c_buildSlice (f := ints) (za := []) (xs := [.tmp 4, .tmp 5]) rfl rfl wDia3_isl22 wDia3_siz32 wDia3_zer32 rfl rfl ⟨_, _, rfl, (Sees.of rfl), rfl, rfl, ⟨_, _, rfl, (Sees.of rfl), rfl, rfl, rfl⟩⟩) rfl rfl rfl rfl) ?_
  refine scons (CStep.step (PStep.c (p_build rfl wDia3_plc24 wDia3_zer24 (by decide) wDia3_zch24 ⟨_, _, _, rfl, rfl, rfl, (Sees.of rfl), ⟨_, _, _, rfl, rfl, rfl, (Sees.of rfl), rfl⟩⟩ rfl)) rfl rfl rfl rfl) ?_
  refine scons (CStep.step (c_call rfl wDia3_isf22 ⟨_, _, rfl, (Sees.of rfl), rfl, rfl⟩ (Of_spec 2 [[1], [2]])) rfl rfl rfl rfl) ?_
  refine scons (CStep.step (PStep.c (p_move (y := .val _) rfl (Sees.of rfl) rfl)) rfl rfl rfl rfl) ?_
  refine scons (CStep.step (PStep.c (p_extract rfl (Sees.of rfl) rfl)) rfl rfl rfl rfl) ?_
  refine scons (CStep.step (PStep.c (p_extract rfl (Sees.of rfl) rfl)) rfl rfl rfl rfl) ?_
  refine scons (r_alloc (ob := 10001) rfl wDia3_zer41 rfl rfl rfl rfl rfl rfl) ?_
  refine scons (r_alloc (ob := 10002) rfl wDia3_zer28 rfl rfl rfl rfl rfl rfl) ?_
  refine scons (r_storeS rfl wDia3_siz41 rfl rfl rfl (Sees.of rfl) rfl (Sees.of rfl) rfl rfl rfl rfl) ?_
  refine scons (r_storeS rfl wDia3_siz28 rfl rfl rfl (Sees.of rfl) rfl (Sees.of rfl) rfl rfl rfl rfl) ?_
  refine snil ?_
  refine f_seq ?_
  refine f_draw wDia3_mix (by kernel_rfl) ?_
  refine dcons (CStep.step (PStep.c (p_fieldRef rfl wDia3_fld28_0 wDia3_siz3 rfl (Sees.of rfl) rfl)) rfl rfl rfl rfl) ?_
  refine dcons (CStep.step (PStep.c (p_loadB (y := .val _) rfl wDia3_agg3 (Sees.of rfl) rfl rfl rfl rfl)) rfl rfl rfl rfl) ?_
  refine dcons (CStep.step (PStep.c (p_eql rfl (Sees.of rfl) (Sees.of rfl))) rfl rfl rfl rfl) ?_
  refine dcons (CStep.step (PStep.c (p_move (y := .val _) rfl (Sees.of rfl) rfl)) rfl rfl rfl rfl) ?_
  refine dcons (CStep.guard rfl rfl rfl (fun hg0 => PStep.c (p_loadBS rfl wDia3_agg41 wDia3_siz41 (Sees.of rfl) rfl rfl rfl)) rfl rfl rfl rfl rfl) ?_
  refine dcons (CStep.guard rfl rfl rfl (fun hg0 => c_call rfl wDia3_isf58 rfl (one_spec)) rfl rfl rfl rfl rfl) ?_
  refine dcons (CStep.guard rfl rfl rfl (fun hg0 => c_call rfl wDia3_isf26 ⟨_, _, rfl, (Sees.gv' rfl hg0), rfl, ⟨_, _, rfl, (Sees.gv' rfl hg0), rfl, rfl⟩⟩ (DiaSame_spec _ _ _ _)) rfl rfl rfl rfl rfl) ?_
  refine dcons (CStep.step (PStep.c (p_and rfl (Sees.of rfl) (fun h => Sees.gv' rfl (beq_of_eq h)) (Sees.of rfl))) rfl rfl rfl rfl) ?_
  refine dcons (CStep.step (PStep.c (p_assign (y := .val _) rfl (Sees.of rfl) rfl)) rfl rfl rfl rfl) ?_
  refine dnil (by kernel_rfl) ?_
  refine f_ret ?_
  refine ends_ret (res_eq (res1 rfl (res_tmp rfl (Sees.of rfl))) ?_)
  rw [Sp.sure_of]
  rfl

end Go.Um
