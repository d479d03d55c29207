/- Walks of Go functions of this seat, each by its contract. No condition beyond what each theorem says. -/
import Derived.Test.YtpjenbbalengoaaWDia2
import Derived.Test.YtpjenbbalengoaaPC
import Derived.Test.YtpjenbbalengoaaProg
import Derived.KernelRfl
set_option maxRecDepth 4000
namespace Go.Um
open Go Go.RowKit

theorem wDia3_agg178 : IsAgg Go.Proofs.Try.prog 178 false := by unfold IsAgg; kernel_rfl
theorem wDia3_agg179 : IsAgg Go.Proofs.Try.prog 179 false := by unfold IsAgg; kernel_rfl
theorem wDia3_agg26 : IsAgg Go.Proofs.Try.prog 26 true := by unfold IsAgg; kernel_rfl
theorem wDia3_agg3 : IsAgg Go.Proofs.Try.prog 3 false := by unfold IsAgg; kernel_rfl
theorem wDia3_agg4 : IsAgg Go.Proofs.Try.prog 4 false := by unfold IsAgg; kernel_rfl
theorem wDia3_agg5 : IsAgg Go.Proofs.Try.prog 5 false := by unfold IsAgg; kernel_rfl
theorem wDia3_agg65 : IsAgg Go.Proofs.Try.prog 65 false := by unfold IsAgg; kernel_rfl
theorem wDia3_agg67 : IsAgg Go.Proofs.Try.prog 67 true := by unfold IsAgg; kernel_rfl
theorem wDia3_agg79 : IsAgg Go.Proofs.Try.prog 79 true := by unfold IsAgg; kernel_rfl
theorem wDia3_byt79 : Bytes Go.Proofs.Try.prog 79 24 := by unfold Bytes; kernel_rfl
theorem wDia3_eq379 : Eq3 Go.Proofs.Try.prog 79 := ⟨_, _, _, Go.Proofs.Try.underlying79, by decide, by decide, by decide, rfl, rfl, rfl, Go.Proofs.Try.underlying3, Go.Proofs.Try.underlying3, Go.Proofs.Try.underlying3, by kernel_rfl, by kernel_rfl⟩
theorem wDia3_fld181_0 : IsField Go.Proofs.Try.prog 181 0 0 65 := by unfold IsField; kernel_rfl
theorem wDia3_fld181_1 : IsField Go.Proofs.Try.prog 181 1 1 178 := by unfold IsField; kernel_rfl
theorem wDia3_fld181_2 : IsField Go.Proofs.Try.prog 181 2 2 179 := by unfold IsField; kernel_rfl
theorem wDia3_fld67_0 : IsField Go.Proofs.Try.prog 67 0 0 65 := by unfold IsField; kernel_rfl
theorem wDia3_fld67_1 : IsField Go.Proofs.Try.prog 67 1 1 3 := by unfold IsField; kernel_rfl
theorem wDia3_fld79_1 : IsField Go.Proofs.Try.prog 79 1 1 3 := by unfold IsField; kernel_rfl
theorem wDia3_fld79_2 : IsField Go.Proofs.Try.prog 79 2 2 3 := by unfold IsField; kernel_rfl
theorem wDia3_int3 : IsInt Go.Proofs.Try.prog 3 .i64 := by unfold IsInt; kernel_rfl
theorem wDia3_int5 : IsInt Go.Proofs.Try.prog 5 .u8 := by unfold IsInt; kernel_rfl
theorem wDia3_isf135 : IsFn Go.Proofs.Try.prog 135 := by unfold IsFn; kernel_rfl
theorem wDia3_isf95 : IsFn Go.Proofs.Try.prog 95 := by unfold IsFn; kernel_rfl
theorem wDia3_isl141 : IsSlice Go.Proofs.Try.prog 141 5 := by unfold IsSlice; kernel_rfl
theorem wDia3_isl24 : IsSlice Go.Proofs.Try.prog 24 4 := by unfold IsSlice; kernel_rfl
theorem wDia3_isl65 : IsSlice Go.Proofs.Try.prog 65 79 := by unfold IsSlice; kernel_rfl
theorem wDia3_mix : (Go.Proofs.Try.prog).follows .mixedOrders = true := by kernel_rfl
theorem wDia3_mty178 : MapTy Go.Proofs.Try.prog 178 79 3 vCho dCho vInt di 0 := mapTy_cho (by kernel_rfl) ⟨_, _, _, Go.Proofs.Try.underlying79, by decide, by decide, by decide, rfl, rfl, rfl, Go.Proofs.Try.underlying3, Go.Proofs.Try.underlying3, Go.Proofs.Try.underlying3, by kernel_rfl, by kernel_rfl⟩ (by unfold Zero; kernel_rfl) (fun a _ _ => val_int a) (fun a _ _ v h => valr_int a v h) (fun _ => rfl)
theorem wDia3_mty179 : MapTy Go.Proofs.Try.prog 179 9 3 Value.string D.str vInt di 0 := mapTy_str (by kernel_rfl) Go.Proofs.Try.underlying9 (by unfold Zero; kernel_rfl) (fun a _ _ => val_int a) (fun a _ _ v h => valr_int a v h) (fun _ => rfl)
theorem wDia3_plc181 : Places Go.Proofs.Try.prog 181 [(0, 1), (1, 1), (2, 1)] := by unfold Places; kernel_rfl
theorem wDia3_plc26 : Places Go.Proofs.Try.prog 26 [(0, 1), (1, 1)] := by unfold Places; kernel_rfl
theorem wDia3_plc67 : Places Go.Proofs.Try.prog 67 [(0, 1), (1, 1)] := by unfold Places; kernel_rfl
theorem wDia3_plc79 : Places Go.Proofs.Try.prog 79 [(0, 1), (1, 1), (2, 1)] := by unfold Places; kernel_rfl
theorem wDia3_siz178 : Size Go.Proofs.Try.prog 178 1 := by unfold Size; kernel_rfl
theorem wDia3_siz179 : Size Go.Proofs.Try.prog 179 1 := by unfold Size; kernel_rfl
theorem wDia3_siz26 : Size Go.Proofs.Try.prog 26 2 := by unfold Size; kernel_rfl
theorem wDia3_siz3 : Size Go.Proofs.Try.prog 3 1 := by unfold Size; kernel_rfl
theorem wDia3_siz4 : Size Go.Proofs.Try.prog 4 1 := by unfold Size; kernel_rfl
theorem wDia3_siz5 : Size Go.Proofs.Try.prog 5 1 := by unfold Size; kernel_rfl
theorem wDia3_siz65 : Size Go.Proofs.Try.prog 65 1 := by unfold Size; kernel_rfl
theorem wDia3_siz67 : Size Go.Proofs.Try.prog 67 2 := by unfold Size; kernel_rfl
theorem wDia3_siz79 : Size Go.Proofs.Try.prog 79 3 := by unfold Size; kernel_rfl
def wDia3_z26 : D := .cons (.int .i64 0) (.cons (.int .i64 0) (.nil))
theorem wDia3_zch26 : ∀ (ok : Nat → Prop) (w : World), R Go.Proofs.Try.prog wDia3_z26 ok w (Value.cells (.agg #[(.int .i64 0), (.int .i64 0)])).toList := fun _ _ => z_int (z_int (z_nil))
def wDia3_z67 : D := .cons (chos []) (.cons (.int .i64 0) (.nil))
theorem wDia3_zch67 : ∀ (ok : Nat → Prop) (w : World), R Go.Proofs.Try.prog wDia3_z67 ok w (Value.cells (.agg #[(.slice none 0 0), (.int .i64 0)])).toList := fun _ _ => z_list (z_int (z_nil))
def wDia3_z79 : D := .cons (.int .i64 0) (.cons (.int .i64 0) (.cons (.int .i64 0) (.nil)))
theorem wDia3_zch79 : ∀ (ok : Nat → Prop) (w : World), R Go.Proofs.Try.prog wDia3_z79 ok w (Value.cells (.agg #[(.int .i64 0), (.int .i64 0), (.int .i64 0)])).toList := fun _ _ => z_int (z_int (z_int (z_nil)))
theorem wDia3_zer181 : Zero Go.Proofs.Try.prog 181 (.agg #[(.slice none 0 0), (.map none), (.map none)]) := by unfold Zero; kernel_rfl
theorem wDia3_zer26 : Zero Go.Proofs.Try.prog 26 (.agg #[(.int .i64 0), (.int .i64 0)]) := by unfold Zero; kernel_rfl
theorem wDia3_zer67 : Zero Go.Proofs.Try.prog 67 (.agg #[(.slice none 0 0), (.int .i64 0)]) := by unfold Zero; kernel_rfl
theorem wDia3_zer79 : Zero Go.Proofs.Try.prog 79 (.agg #[(.int .i64 0), (.int .i64 0), (.int .i64 0)]) := by unfold Zero; kernel_rfl

theorem node_spec (f k : Nat) (t : List Int) (v : Int) (L : List Sp.Cho) (sn : Sp.Seen) (res : Int × List Sp.Cho × Sp.Seen) (hmf : k < f) (ht : t.length = 2 ^ k) (hm : k ≤ 16) (h01 : ∀ x ∈ t, 0 ≤ x ∧ x ≤ 1) (hv : 0 ≤ v ∧ v + k ≤ 1000) (hL : L.length + 2 ^ k ≤ 1000000) (hres : Sp.nodeF k t v (L, sn) = res) :
    SpecB Go.Proofs.Try.prog 135 [.ref 30000 0 0, .val (bytes t), iv v] [(30000, .box 0 (.ccons (.row 30001 L.length) (.ccons (.row 30002 0) (.ccons (.row 30003 0) .cnil)))), (30001, .arr L.length 79 3 24 dCho (0, 0, 0) L), (30002, .mp 0 vCho vInt (Sp.knownOf L)), (30003, .mp 0 Value.string vInt sn)] (di res.1) [(30000, .box 0 (.ccons (.row 30001 res.2.1.length) (.ccons (.row 30002 0) (.ccons (.row 30003 0) .cnil)))), (30001, .arr res.2.1.length 79 3 24 dCho (0, 0, 0) res.2.1), (30002, .mp 0 vCho vInt (Sp.knownOf res.2.1)), (30003, .mp 0 Value.string vInt res.2.2)] := by
  induction f generalizing k t v L sn res with
  | zero => omega
  | succ f ih =>
    refine specB_of' Go.Proofs.Try.func135 rfl Go.Proofs.Try.ntmps135 rfl rfl rfl ?_
    refine f_seq ?_
    have hk16 := Sp.pow16 hm
    refine f_region ?_
    refine scons (CStep.step (PStep.c (p_assign (y := .val _) rfl (Sees.of rfl) rfl)) rfl rfl rfl rfl) ?_
    refine snil ?_
    refine f_seq ?_
    refine f_seq ?_
    refine f_region ?_
    refine scons (CStep.step (PStep.c (p_move (y := .val _) rfl (Sees.of rfl) rfl)) rfl rfl rfl rfl) ?_
    refine scons (CStep.step (PStep.c (p_len rfl wDia3_isl141 (Sees.of rfl))) rfl rfl rfl rfl) ?_
    refine scons (CStep.step (PStep.c (p_eql rfl (Sees.of rfl) (Sees.of rfl))) rfl rfl rfl rfl) ?_
    refine snil ?_
    refine f_cond rfl ?_ ?_
    · intro hc1
      try simp only [bs] at hc1
      refine f_seq ?_
      have h0 := h01 _ (Sp.getD_mem t 0 0 (by omega))
      have h0' := h01 _ (Sp.getD_mem t (0 : Int).toNat 0 (by simp; omega))
      refine f_region ?_
      refine scons (CStep.step (PStep.c (p_move (y := .val _) rfl (Sees.of rfl) rfl)) rfl rfl rfl rfl) ?_
      refine scons (CStep.step (PStep.c ((by first | exact p_indexN rfl wDia3_isl141 wDia3_siz5 (Sees.of rfl) (Sees.of rfl) (by omega) | exact p_index rfl wDia3_isl141 wDia3_siz5 (Sees.of rfl) (Sees.of rfl) (by omega) (by omega)))) rfl rfl rfl rfl) ?_
      refine scons (CStep.step (PStep.c (p_load rfl wDia3_agg5 (Sees.of rfl) rfl)) rfl rfl rfl rfl) ?_
      refine scons (CStep.step (PStep.c (p_conv64 rfl wDia3_int5 wDia3_int3 (Sees.of rfl) (by omega))) rfl rfl rfl rfl) ?_
      refine scons (CStep.step (PStep.c (p_assign (y := .val _) rfl (Sees.of rfl) rfl)) rfl rfl rfl rfl) ?_
      refine snil ?_
      refine f_ret ?_
      obtain rfl : k = 0 := by
        rcases Nat.eq_zero_or_pos k with h | h
        · exact h
        · have h3 : 2 ^ k = 1 := by omega
          have h4 := Nat.pow_lt_pow_right (a := 2) (by decide) h
          exact absurd h4 (by rw [h3]; decide)
      have e : Sp.nodeF 0 t v (L, sn) = (t.getD 0 0, (L, sn)) := rfl
      rw [hres] at e
      subst e
      refine endsB_ret (resB_eq (resB_tmp rfl rfl (Sees.of rfl)) ?_) ⟨rfl, rfl, rfl, rfl, rfl, trivial⟩ rfl
      rfl
    · intro hc1
      try simp only [bs] at hc1
      obtain ⟨m, rfl⟩ : ∃ q, k = q + 1 := ⟨k - 1, by
        rcases Nat.eq_zero_or_pos k with h | h
        · subst h; simp at ht; omega
        · omega⟩
      have hp : 2 ^ (m + 1) = 2 ^ m + 2 ^ m := by rw [Nat.pow_succ]; omega
      have hp1 : 1 ≤ 2 ^ m := Nat.one_le_two_pow
      refine f_skip ?_
      refine f_seq ?_
      refine f_seq ?_
      refine f_draw wDia3_mix (by kernel_rfl) ?_
      refine dcons (CStep.step (PStep.c (p_move (y := .ref _ _ _) rfl (Sees.of rfl) rfl)) rfl rfl rfl rfl) ?_
      refine dcons (CStep.step (PStep.c (p_nilRef rfl (Sees.of rfl) rfl)) rfl rfl rfl rfl) ?_
      refine dcons (CStep.step (PStep.c (p_fieldRef rfl wDia3_fld181_2 wDia3_siz179 rfl (Sees.of rfl) rfl)) rfl rfl rfl rfl) ?_
      refine dcons (CStep.step (PStep.c (p_loadB (y := .row _ _) rfl wDia3_agg179 (Sees.of rfl) rfl rfl rfl rfl)) rfl rfl rfl rfl) ?_
      refine dcons (CStep.step (PStep.c (p_move (y := .val _) rfl (Sees.of rfl) rfl)) rfl rfl rfl rfl) ?_
      refine dcons (CStep.step (PStep.c (p_bytesStr rfl wDia3_isl141 Go.Proofs.Try.underlying5 Go.Proofs.Try.underlying9 (Sees.of rfl))) rfl rfl rfl rfl) ?_
      refine dcons (CStep.step (PStep.c (p_lookOk rfl wDia3_mty179 (Sees.of rfl) rfl (Sees.of rfl))) rfl rfl rfl rfl) ?_
      refine dcons (CStep.step (PStep.c (p_move (y := .val _) rfl (Sees.of rfl) rfl)) rfl rfl rfl rfl) ?_
      refine dcons (CStep.step (PStep.c (p_extract rfl (Sees.of rfl) rfl)) rfl rfl rfl rfl) ?_
      refine dcons (CStep.step (PStep.c (p_extract rfl (Sees.of rfl) rfl)) rfl rfl rfl rfl) ?_
      refine dcons (CStep.step (PStep.c (p_assign (y := .val _) rfl (Sees.of rfl) rfl)) rfl rfl rfl rfl) ?_
      refine dcons (CStep.step (PStep.c (p_assign (y := .val _) rfl (Sees.of rfl) rfl)) rfl rfl rfl rfl) ?_
      refine dnil (by kernel_rfl) ?_
      refine f_seq ?_
      refine f_region ?_
      refine scons (CStep.step (PStep.c (p_move (y := .val _) rfl (Sees.of rfl) rfl)) rfl rfl rfl rfl) ?_
      refine snil ?_
      refine f_cond rfl ?_ ?_
      · intro hc2
        try simp only [bs] at hc2
        refine f_seq ?_
        refine f_region ?_
        refine scons (CStep.step (PStep.c (p_move (y := .val _) rfl (Sees.of rfl) rfl)) rfl rfl rfl rfl) ?_
        refine scons (CStep.step (PStep.c (p_assign (y := .val _) rfl (Sees.of rfl) rfl)) rfl rfl rfl rfl) ?_
        refine snil ?_
        refine f_ret ?_
        have e : Sp.nodeF (m + 1) t v (L, sn) = ((getL sn (strOfNums t)).getD 0, (L, sn)) := by rw [Sp.nodeF_step rfl rfl, if_pos hc2]
        rw [hres] at e
        subst e
        refine endsB_ret (resB_eq (resB_tmp rfl rfl (Sees.of rfl)) ?_) ⟨rfl, rfl, rfl, rfl, rfl, trivial⟩ rfl
        rfl
      · intro hc2
        try simp only [bs] at hc2
        refine f_skip ?_
        refine f_seq ?_
        refine f_region ?_
        refine scons (CStep.step (PStep.c (p_move (y := .val _) rfl (Sees.of rfl) rfl)) rfl rfl rfl rfl) ?_
        refine scons (CStep.step (PStep.c (p_len rfl wDia3_isl141 (Sees.of rfl))) rfl rfl rfl rfl) ?_
        refine scons (CStep.step (PStep.c (p_quo rfl (Sees.of rfl) (Sees.of rfl) (by omega) (by omega))) rfl rfl rfl rfl) ?_
        refine scons (CStep.step (PStep.c (p_assign (y := .val _) rfl (Sees.of rfl) rfl)) rfl rfl rfl rfl) ?_
        refine snil ?_
        refine f_seq ?_
        have hh : ((t.length : Int) / 2) = ((2 ^ m : Nat) : Int) := by omega
        rw [hh]
        have hlA := Sp.nodeF_len m (t.take (2 ^ m)) (v + 1) (L, sn)
        have hlB := Sp.nodeF_len m ((t.drop (2 ^ m)).take (t.length - 2 ^ m)) (v + 1) (Sp.nodeF m (t.take (2 ^ m)) (v + 1) (L, sn)).2
        simp only at hlA
        refine f_draw wDia3_mix (by kernel_rfl) ?_
        refine dcons (CStep.step (PStep.c (p_move (y := .val _) rfl (Sees.of rfl) rfl)) rfl rfl rfl rfl) ?_
        refine dcons (CStep.step (PStep.c (p_move (y := .ref _ _ _) rfl (Sees.of rfl) rfl)) rfl rfl rfl rfl) ?_
        refine dcons (CStep.step (PStep.c (p_move (y := .val _) rfl (Sees.of rfl) rfl)) rfl rfl rfl rfl) ?_
        refine dcons (CStep.step (PStep.c (p_move (y := .val _) rfl (Sees.of rfl) rfl)) rfl rfl rfl rfl) ?_
        refine dcons (CStep.step (PStep.c (p_slice (l := 0) (h := 2 ^ m) rfl wDia3_isl141 wDia3_siz5 (Sees.of rfl) rfl (Sees.of rfl) (by omega) (by omega))) rfl rfl rfl rfl) ?_
        refine dcons (CStep.step (PStep.c (p_move (y := .val _) rfl (Sees.of rfl) rfl)) rfl rfl rfl rfl) ?_
        refine dcons (CStep.step (PStep.c (p_add rfl (Sees.of rfl) (Sees.of rfl) (by omega))) rfl rfl rfl rfl) ?_
        refine dcons (r_callB rfl wDia3_isf135 (ih m (t.take (2 ^ m)) (v + 1) L sn _ (by omega) (by rw [List.length_take]; omega) (by omega) (fun x hx => h01 x (List.mem_of_mem_take hx)) (by omega) (by omega) rfl) ⟨_, _, rfl, (Sees.of rfl), ⟨_, _, rfl, (Sees.of rfl), ⟨_, _, rfl, (Sees.of rfl), rfl⟩⟩⟩ ⟨rfl, rfl, rfl, rfl, trivial⟩ rfl rfl rfl rfl rfl rfl) ?_
        refine dcons (CStep.step (PStep.c (p_move (y := .ref _ _ _) rfl (Sees.of rfl) rfl)) rfl rfl rfl rfl) ?_
        refine dcons (CStep.step (PStep.c (p_move (y := .val _) rfl (Sees.of rfl) rfl)) rfl rfl rfl rfl) ?_
        refine dcons (CStep.step (PStep.c (p_move (y := .val _) rfl (Sees.of rfl) rfl)) rfl rfl rfl rfl) ?_
        refine dcons (CStep.step (PStep.c (p_slice (l := 2 ^ m) (h := t.length) rfl wDia3_isl141 wDia3_siz5 (Sees.of rfl) (Sees.of rfl) rfl (by omega) (by omega))) rfl rfl rfl rfl) ?_
        refine dcons (CStep.step (PStep.c (p_move (y := .val _) rfl (Sees.of rfl) rfl)) rfl rfl rfl rfl) ?_
        refine dcons (CStep.step (PStep.c (p_add rfl (Sees.of rfl) (Sees.of rfl) (by omega))) rfl rfl rfl rfl) ?_
        refine dcons (r_callB rfl wDia3_isf135 (ih m ((t.drop (2 ^ m)).take (t.length - 2 ^ m)) (v + 1) (Sp.nodeF m (t.take (2 ^ m)) (v + 1) (L, sn)).2.1 (Sp.nodeF m (t.take (2 ^ m)) (v + 1) (L, sn)).2.2 (Sp.nodeF m ((t.drop (2 ^ m)).take (t.length - 2 ^ m)) (v + 1) (Sp.nodeF m (t.take (2 ^ m)) (v + 1) (L, sn)).2) (by omega) (by rw [List.length_take, List.length_drop]; omega) (by omega) (fun x hx => h01 x (List.mem_of_mem_drop (List.mem_of_mem_take hx))) (by omega) (by omega) rfl) ⟨_, _, rfl, (Sees.of rfl), ⟨_, _, rfl, (Sees.of rfl), ⟨_, _, rfl, (Sees.of rfl), rfl⟩⟩⟩ ⟨rfl, rfl, rfl, rfl, trivial⟩ rfl rfl rfl rfl rfl rfl) ?_
        refine dcons (CStep.step (PStep.c (p_build rfl wDia3_plc79 wDia3_zer79 (by decide) wDia3_zch79 ⟨_, _, _, rfl, rfl, rfl, (Sees.of rfl), ⟨_, _, _, rfl, rfl, rfl, (Sees.of rfl), ⟨_, _, _, rfl, rfl, rfl, (Sees.of rfl), rfl⟩⟩⟩ rfl)) rfl rfl rfl rfl) ?_
        refine dcons (r_alloc (ob := 10010) rfl wDia3_zer79 rfl rfl rfl rfl rfl rfl) ?_
        refine dcons (r_storeS rfl wDia3_siz79 rfl rfl rfl (Sees.of rfl) rfl (Sees.of rfl) rfl rfl rfl rfl) ?_
        refine dnil (by kernel_rfl) ?_
        refine f_seq ?_
        refine f_draw wDia3_mix (by kernel_rfl) ?_
        refine dcons (CStep.step (PStep.c (p_move (y := .ref _ _ _) rfl (Sees.of rfl) rfl)) rfl rfl rfl rfl) ?_
        refine dcons (CStep.step (PStep.c (p_nilRef rfl (Sees.of rfl) rfl)) rfl rfl rfl rfl) ?_
        refine dcons (CStep.step (PStep.c (p_fieldRef rfl wDia3_fld181_1 wDia3_siz178 rfl (Sees.of rfl) rfl)) rfl rfl rfl rfl) ?_
        refine dcons (CStep.step (PStep.c (p_loadB (y := .row _ _) rfl wDia3_agg178 (Sees.of rfl) rfl rfl rfl rfl)) rfl rfl rfl rfl) ?_
        refine dcons (CStep.step (PStep.c (p_loadBS rfl wDia3_agg79 wDia3_siz79 (Sees.of rfl) rfl rfl rfl)) rfl rfl rfl rfl) ?_
        refine dcons (CStep.step (PStep.c (p_lookOk (k := (v, (Sp.nodeF m (t.take (2 ^ m)) (v + 1) (L, sn)).1, (Sp.nodeF m ((t.drop (2 ^ m)).take (t.length - 2 ^ m)) (v + 1) (Sp.nodeF m (t.take (2 ^ m)) (v + 1) (L, sn)).2).1)) rfl wDia3_mty178 (Sees.of rfl) rfl (Sees.of rfl))) rfl rfl rfl rfl) ?_
        refine dcons (CStep.step (PStep.c (p_move (y := .val _) rfl (Sees.of rfl) rfl)) rfl rfl rfl rfl) ?_
        refine dcons (CStep.step (PStep.c (p_extract rfl (Sees.of rfl) rfl)) rfl rfl rfl rfl) ?_
        refine dcons (CStep.step (PStep.c (p_extract rfl (Sees.of rfl) rfl)) rfl rfl rfl rfl) ?_
        refine dcons (CStep.step (PStep.c (p_assign (y := .val _) rfl (Sees.of rfl) rfl)) rfl rfl rfl rfl) ?_
        refine dcons (CStep.step (PStep.c (p_assign (y := .val _) rfl (Sees.of rfl) rfl)) rfl rfl rfl rfl) ?_
        refine dnil (by kernel_rfl) ?_
        refine f_seq ?_
        refine f_block ?_
        refine f_seq ?_
        refine f_region ?_
        refine scons (CStep.step (PStep.c (p_fieldRef rfl wDia3_fld79_1 wDia3_siz3 rfl (Sees.of rfl) rfl)) rfl rfl rfl rfl) ?_
        refine scons (CStep.step (PStep.c (p_loadB (y := .val _) rfl wDia3_agg3 (Sees.of rfl) rfl rfl rfl rfl)) rfl rfl rfl rfl) ?_
        refine scons (CStep.step (PStep.c (p_fieldRef rfl wDia3_fld79_2 wDia3_siz3 rfl (Sees.of rfl) rfl)) rfl rfl rfl rfl) ?_
        refine scons (CStep.step (PStep.c (p_loadB (y := .val _) rfl wDia3_agg3 (Sees.of rfl) rfl rfl rfl rfl)) rfl rfl rfl rfl) ?_
        refine scons (CStep.step (PStep.c (p_eql rfl (Sees.of rfl) (Sees.of rfl))) rfl rfl rfl rfl) ?_
        refine scons (CStep.step (PStep.c (p_assign (y := .val _) rfl (Sees.of rfl) rfl)) rfl rfl rfl rfl) ?_
        refine snil ?_
        refine f_cond rfl ?_ ?_
        · intro hc3
          try simp only [bs] at hc3
          refine f_region ?_
          refine scons (CStep.step (PStep.c (p_fieldRef rfl wDia3_fld79_1 wDia3_siz3 rfl (Sees.of rfl) rfl)) rfl rfl rfl rfl) ?_
          refine scons (CStep.step (PStep.c (p_loadB (y := .val _) rfl wDia3_agg3 (Sees.of rfl) rfl rfl rfl rfl)) rfl rfl rfl rfl) ?_
          refine scons (CStep.step (PStep.c (p_assign (y := .val _) rfl (Sees.of rfl) rfl)) rfl rfl rfl rfl) ?_
          refine snil ?_
          refine f_nil ?_
          show AWs _ _ _ _ _
          refine f_seq ?_
          refine f_draw wDia3_mix (by kernel_rfl) ?_
          refine dcons (CStep.step (PStep.c (p_move (y := .ref _ _ _) rfl (Sees.of rfl) rfl)) rfl rfl rfl rfl) ?_
          refine dcons (CStep.step (PStep.c (p_nilRef rfl (Sees.of rfl) rfl)) rfl rfl rfl rfl) ?_
          refine dcons (CStep.step (PStep.c (p_fieldRef rfl wDia3_fld181_2 wDia3_siz179 rfl (Sees.of rfl) rfl)) rfl rfl rfl rfl) ?_
          refine dcons (CStep.step (PStep.c (p_loadB (y := .row _ _) rfl wDia3_agg179 (Sees.of rfl) rfl rfl rfl rfl)) rfl rfl rfl rfl) ?_
          refine dcons (CStep.step (PStep.c (p_move (y := .val _) rfl (Sees.of rfl) rfl)) rfl rfl rfl rfl) ?_
          refine dcons (CStep.step (PStep.c (p_bytesStr rfl wDia3_isl141 Go.Proofs.Try.underlying5 Go.Proofs.Try.underlying9 (Sees.of rfl))) rfl rfl rfl rfl) ?_
          refine dcons (CStep.step (PStep.c (p_move (y := .val _) rfl (Sees.of rfl) rfl)) rfl rfl rfl rfl) ?_
          refine dcons (r_mapPut rfl wDia3_mty179 rfl rfl rfl (Sees.of rfl) rfl (Sees.of rfl) (Sees.of rfl)) ?_
          refine dnil (by kernel_rfl) ?_
          refine f_seq ?_
          refine f_region ?_
          refine scons (CStep.step (PStep.c (p_move (y := .val _) rfl (Sees.of rfl) rfl)) rfl rfl rfl rfl) ?_
          refine scons (CStep.step (PStep.c (p_assign (y := .val _) rfl (Sees.of rfl) rfl)) rfl rfl rfl rfl) ?_
          refine snil ?_
          refine f_ret ?_
          have e : Sp.nodeF (m + 1) t v (L, sn) = ((Sp.nodeF m (t.take (2 ^ m)) (v + 1) (L, sn)).1, (Sp.nodeF m ((t.drop (2 ^ m)).take (t.length - 2 ^ m)) (v + 1) (Sp.nodeF m (t.take (2 ^ m)) (v + 1) (L, sn)).2).2.1, putL (Sp.nodeF m ((t.drop (2 ^ m)).take (t.length - 2 ^ m)) (v + 1) (Sp.nodeF m (t.take (2 ^ m)) (v + 1) (L, sn)).2).2.2 (strOfNums t) (Sp.nodeF m (t.take (2 ^ m)) (v + 1) (L, sn)).1) := by rw [Sp.nodeF_step rfl rfl, if_neg (by rw [hc2]; decide), if_pos hc3]
          rw [hres] at e
          subst e
          refine endsB_ret (resB_eq (resB_tmp rfl rfl (Sees.of rfl)) ?_) ⟨rfl, rfl, rfl, rfl, rfl, trivial⟩ rfl
          rfl
        · intro hc3
          try simp only [bs] at hc3
          refine f_seq ?_
          refine f_region ?_
          refine scons (CStep.step (PStep.c (p_move (y := .val _) rfl (Sees.of rfl) rfl)) rfl rfl rfl rfl) ?_
          refine scons (CStep.step (PStep.c (p_not rfl (Sees.of rfl))) rfl rfl rfl rfl) ?_
          refine scons (CStep.step (PStep.c (p_assign (y := .val _) rfl (Sees.of rfl) rfl)) rfl rfl rfl rfl) ?_
          refine snil ?_
          refine f_cond rfl ?_ ?_
          · intro hc4
            try simp only [bs] at hc4
            refine f_seq ?_
            refine f_draw wDia3_mix (by kernel_rfl) ?_
            refine dcons (CStep.step (PStep.c (p_move (y := .ref _ _ _) rfl (Sees.of rfl) rfl)) rfl rfl rfl rfl) ?_
            refine dcons (CStep.step (PStep.c (p_move (y := .ref _ _ _) rfl (Sees.of rfl) rfl)) rfl rfl rfl rfl) ?_
            refine dcons (CStep.step (PStep.c (p_nilRef rfl (Sees.of rfl) rfl)) rfl rfl rfl rfl) ?_
            refine dcons (CStep.step (PStep.c (p_fieldRef rfl wDia3_fld181_0 wDia3_siz65 rfl (Sees.of rfl) rfl)) rfl rfl rfl rfl) ?_
            refine dcons (CStep.step (PStep.c (p_loadB (y := .row _ _) rfl wDia3_agg65 (Sees.of rfl) rfl rfl rfl rfl)) rfl rfl rfl rfl) ?_
            refine dcons (CStep.step (PStep.c (p_loadBS rfl wDia3_agg79 wDia3_siz79 (Sees.of rfl) rfl rfl rfl)) rfl rfl rfl rfl) ?_
            refine dcons (CStep.step (c_buildSlice (f := dCho) (za := (0, 0, 0)) (xs := [.tmp 76]) rfl rfl wDia3_isl65 wDia3_siz79 wDia3_zer79 rfl rfl ⟨(_, _, _), _, rfl, (Sees.of rfl), rfl, rfl, rfl⟩) rfl rfl rfl rfl) ?_
            refine dcons (r_appendR (ob := 30001) rfl wDia3_isl65 wDia3_siz79 wDia3_byt79 wDia3_zer79 rfl rfl (Sees.of rfl) rfl (Sees.of rfl) (by simp only [List.length_cons, List.length_nil, List.length_append]; omega) (by simp only [List.length_cons, List.length_nil, List.length_append]; omega) rfl rfl rfl rfl rfl) ?_
            refine dcons (CStep.step (PStep.c (p_nilRef rfl (Sees.of rfl) rfl)) rfl rfl rfl rfl) ?_
            refine dcons (CStep.step (PStep.c (p_fieldRef rfl wDia3_fld181_0 wDia3_siz65 rfl (Sees.of rfl) rfl)) rfl rfl rfl rfl) ?_
            refine dcons (r_storeR rfl wDia3_siz65 rfl rfl rfl (Sees.of rfl) rfl rfl (Sees.of rfl) rfl) ?_
            refine dnil (by kernel_rfl) ?_
            refine f_seq ?_
            have hln : ((Sp.nodeF m ((t.drop (2 ^ m)).take (t.length - 2 ^ m)) (v + 1) (Sp.nodeF m (t.take (2 ^ m)) (v + 1) (L, sn)).2).2.1 ++ [(v, (Sp.nodeF m (t.take (2 ^ m)) (v + 1) (L, sn)).1, (Sp.nodeF m ((t.drop (2 ^ m)).take (t.length - 2 ^ m)) (v + 1) (Sp.nodeF m (t.take (2 ^ m)) (v + 1) (L, sn)).2).1)]).length = (Sp.nodeF m ((t.drop (2 ^ m)).take (t.length - 2 ^ m)) (v + 1) (Sp.nodeF m (t.take (2 ^ m)) (v + 1) (L, sn)).2).2.1.length + 1 := by simp
            refine f_region ?_
            refine scons (CStep.step (PStep.c (p_move (y := .ref _ _ _) rfl (Sees.of rfl) rfl)) rfl rfl rfl rfl) ?_
            refine scons (CStep.step (PStep.c (p_nilRef rfl (Sees.of rfl) rfl)) rfl rfl rfl rfl) ?_
            refine scons (CStep.step (PStep.c (p_fieldRef rfl wDia3_fld181_0 wDia3_siz65 rfl (Sees.of rfl) rfl)) rfl rfl rfl rfl) ?_
            refine scons (CStep.step (PStep.c (p_loadB (y := .row _ _) rfl wDia3_agg65 (Sees.of rfl) rfl rfl rfl rfl)) rfl rfl rfl rfl) ?_
            refine scons (CStep.step (PStep.c (p_lenR rfl wDia3_isl65 (Sees.of rfl) rfl)) rfl rfl rfl rfl) ?_
            refine scons (CStep.step (PStep.c (p_add rfl (Sees.of rfl) (Sees.of rfl) (by simp only [List.length_append, List.length_cons, List.length_nil]; omega))) rfl rfl rfl rfl) ?_
            refine scons (CStep.step (PStep.c (p_assign (y := .val _) rfl (Sees.of rfl) rfl)) rfl rfl rfl rfl) ?_
            refine snil ?_
            refine f_draw wDia3_mix (by kernel_rfl) ?_
            refine dcons (CStep.step (PStep.c (p_move (y := .ref _ _ _) rfl (Sees.of rfl) rfl)) rfl rfl rfl rfl) ?_
            refine dcons (CStep.step (PStep.c (p_nilRef rfl (Sees.of rfl) rfl)) rfl rfl rfl rfl) ?_
            refine dcons (CStep.step (PStep.c (p_fieldRef rfl wDia3_fld181_1 wDia3_siz178 rfl (Sees.of rfl) rfl)) rfl rfl rfl rfl) ?_
            refine dcons (CStep.step (PStep.c (p_loadB (y := .row _ _) rfl wDia3_agg178 (Sees.of rfl) rfl rfl rfl rfl)) rfl rfl rfl rfl) ?_
            refine dcons (CStep.step (PStep.c (p_loadBS rfl wDia3_agg79 wDia3_siz79 (Sees.of rfl) rfl rfl rfl)) rfl rfl rfl rfl) ?_
            refine dcons (CStep.step (PStep.c (p_move (y := .val _) rfl (Sees.of rfl) rfl)) rfl rfl rfl rfl) ?_
            refine dcons (r_mapPut (k := (v, (Sp.nodeF m (t.take (2 ^ m)) (v + 1) (L, sn)).1, (Sp.nodeF m ((t.drop (2 ^ m)).take (t.length - 2 ^ m)) (v + 1) (Sp.nodeF m (t.take (2 ^ m)) (v + 1) (L, sn)).2).1)) rfl wDia3_mty178 rfl rfl rfl (Sees.of rfl) rfl (Sees.of rfl) (Sees.of rfl)) ?_
            refine dnil (by kernel_rfl) ?_
            refine f_nil ?_
            show AWs _ _ _ _ _
            refine f_seq ?_
            refine f_draw wDia3_mix (by kernel_rfl) ?_
            refine dcons (CStep.step (PStep.c (p_move (y := .ref _ _ _) rfl (Sees.of rfl) rfl)) rfl rfl rfl rfl) ?_
            refine dcons (CStep.step (PStep.c (p_nilRef rfl (Sees.of rfl) rfl)) rfl rfl rfl rfl) ?_
            refine dcons (CStep.step (PStep.c (p_fieldRef rfl wDia3_fld181_2 wDia3_siz179 rfl (Sees.of rfl) rfl)) rfl rfl rfl rfl) ?_
            refine dcons (CStep.step (PStep.c (p_loadB (y := .row _ _) rfl wDia3_agg179 (Sees.of rfl) rfl rfl rfl rfl)) rfl rfl rfl rfl) ?_
            refine dcons (CStep.step (PStep.c (p_move (y := .val _) rfl (Sees.of rfl) rfl)) rfl rfl rfl rfl) ?_
            refine dcons (CStep.step (PStep.c (p_bytesStr rfl wDia3_isl141 Go.Proofs.Try.underlying5 Go.Proofs.Try.underlying9 (Sees.of rfl))) rfl rfl rfl rfl) ?_
            refine dcons (CStep.step (PStep.c (p_move (y := .val _) rfl (Sees.of rfl) rfl)) rfl rfl rfl rfl) ?_
            refine dcons (r_mapPut rfl wDia3_mty179 rfl rfl rfl (Sees.of rfl) rfl (Sees.of rfl) (Sees.of rfl)) ?_
            refine dnil (by kernel_rfl) ?_
            refine f_seq ?_
            refine f_region ?_
            refine scons (CStep.step (PStep.c (p_move (y := .val _) rfl (Sees.of rfl) rfl)) rfl rfl rfl rfl) ?_
            refine scons (CStep.step (PStep.c (p_assign (y := .val _) rfl (Sees.of rfl) rfl)) rfl rfl rfl rfl) ?_
            refine snil ?_
            refine f_ret ?_
            have hn : (v, (Sp.nodeF m (t.take (2 ^ m)) (v + 1) (L, sn)).1, (Sp.nodeF m ((t.drop (2 ^ m)).take (t.length - 2 ^ m)) (v + 1) (Sp.nodeF m (t.take (2 ^ m)) (v + 1) (L, sn)).2).1) ∉ (Sp.nodeF m ((t.drop (2 ^ m)).take (t.length - 2 ^ m)) (v + 1) (Sp.nodeF m (t.take (2 ^ m)) (v + 1) (L, sn)).2).2.1 := (Sp.known_not _ _).1 (Option.not_isSome_iff_eq_none.1 (by rw [hc4]; decide))
            have e : Sp.nodeF (m + 1) t v (L, sn) = ((((Sp.nodeF m ((t.drop (2 ^ m)).take (t.length - 2 ^ m)) (v + 1) (Sp.nodeF m (t.take (2 ^ m)) (v + 1) (L, sn)).2).2.1 ++ [(v, (Sp.nodeF m (t.take (2 ^ m)) (v + 1) (L, sn)).1, (Sp.nodeF m ((t.drop (2 ^ m)).take (t.length - 2 ^ m)) (v + 1) (Sp.nodeF m (t.take (2 ^ m)) (v + 1) (L, sn)).2).1)]).length : Int) + 1, (Sp.nodeF m ((t.drop (2 ^ m)).take (t.length - 2 ^ m)) (v + 1) (Sp.nodeF m (t.take (2 ^ m)) (v + 1) (L, sn)).2).2.1 ++ [(v, (Sp.nodeF m (t.take (2 ^ m)) (v + 1) (L, sn)).1, (Sp.nodeF m ((t.drop (2 ^ m)).take (t.length - 2 ^ m)) (v + 1) (Sp.nodeF m (t.take (2 ^ m)) (v + 1) (L, sn)).2).1)], putL (Sp.nodeF m ((t.drop (2 ^ m)).take (t.length - 2 ^ m)) (v + 1) (Sp.nodeF m (t.take (2 ^ m)) (v + 1) (L, sn)).2).2.2 (strOfNums t) ((((Sp.nodeF m ((t.drop (2 ^ m)).take (t.length - 2 ^ m)) (v + 1) (Sp.nodeF m (t.take (2 ^ m)) (v + 1) (L, sn)).2).2.1 ++ [(v, (Sp.nodeF m (t.take (2 ^ m)) (v + 1) (L, sn)).1, (Sp.nodeF m ((t.drop (2 ^ m)).take (t.length - 2 ^ m)) (v + 1) (Sp.nodeF m (t.take (2 ^ m)) (v + 1) (L, sn)).2).1)]).length : Int) + 1)) := by rw [Sp.nodeF_step rfl rfl, if_neg (by rw [hc2]; decide), if_neg hc3, if_neg (by rw [hc4]; decide)]
            rw [hres] at e
            subst e
            refine endsB_ret (resB_eq (resB_tmp rfl rfl (Sees.of rfl)) ?_) ⟨rfl, (by rw [hln]; rfl), (by rw [hln]; rfl), (by rw [← Sp.known_put hn]; rfl), rfl, trivial⟩ rfl
            rfl
          · intro hc4
            try simp only [bs] at hc4
            refine f_skip ?_
            refine f_nil ?_
            show AWs _ _ _ _ _
            refine f_seq ?_
            refine f_draw wDia3_mix (by kernel_rfl) ?_
            refine dcons (CStep.step (PStep.c (p_move (y := .ref _ _ _) rfl (Sees.of rfl) rfl)) rfl rfl rfl rfl) ?_
            refine dcons (CStep.step (PStep.c (p_nilRef rfl (Sees.of rfl) rfl)) rfl rfl rfl rfl) ?_
            refine dcons (CStep.step (PStep.c (p_fieldRef rfl wDia3_fld181_2 wDia3_siz179 rfl (Sees.of rfl) rfl)) rfl rfl rfl rfl) ?_
            refine dcons (CStep.step (PStep.c (p_loadB (y := .row _ _) rfl wDia3_agg179 (Sees.of rfl) rfl rfl rfl rfl)) rfl rfl rfl rfl) ?_
            refine dcons (CStep.step (PStep.c (p_move (y := .val _) rfl (Sees.of rfl) rfl)) rfl rfl rfl rfl) ?_
            refine dcons (CStep.step (PStep.c (p_bytesStr rfl wDia3_isl141 Go.Proofs.Try.underlying5 Go.Proofs.Try.underlying9 (Sees.of rfl))) rfl rfl rfl rfl) ?_
            refine dcons (CStep.step (PStep.c (p_move (y := .val _) rfl (Sees.of rfl) rfl)) rfl rfl rfl rfl) ?_
            refine dcons (r_mapPut rfl wDia3_mty179 rfl rfl rfl (Sees.of rfl) rfl (Sees.of rfl) (Sees.of rfl)) ?_
            refine dnil (by kernel_rfl) ?_
            refine f_seq ?_
            refine f_region ?_
            refine scons (CStep.step (PStep.c (p_move (y := .val _) rfl (Sees.of rfl) rfl)) rfl rfl rfl rfl) ?_
            refine scons (CStep.step (PStep.c (p_assign (y := .val _) rfl (Sees.of rfl) rfl)) rfl rfl rfl rfl) ?_
            refine snil ?_
            refine f_ret ?_
            have e : Sp.nodeF (m + 1) t v (L, sn) = ((getL (Sp.knownOf (Sp.nodeF m ((t.drop (2 ^ m)).take (t.length - 2 ^ m)) (v + 1) (Sp.nodeF m (t.take (2 ^ m)) (v + 1) (L, sn)).2).2.1) (v, (Sp.nodeF m (t.take (2 ^ m)) (v + 1) (L, sn)).1, (Sp.nodeF m ((t.drop (2 ^ m)).take (t.length - 2 ^ m)) (v + 1) (Sp.nodeF m (t.take (2 ^ m)) (v + 1) (L, sn)).2).1)).getD 0, (Sp.nodeF m ((t.drop (2 ^ m)).take (t.length - 2 ^ m)) (v + 1) (Sp.nodeF m (t.take (2 ^ m)) (v + 1) (L, sn)).2).2.1, putL (Sp.nodeF m ((t.drop (2 ^ m)).take (t.length - 2 ^ m)) (v + 1) (Sp.nodeF m (t.take (2 ^ m)) (v + 1) (L, sn)).2).2.2 (strOfNums t) ((getL (Sp.knownOf (Sp.nodeF m ((t.drop (2 ^ m)).take (t.length - 2 ^ m)) (v + 1) (Sp.nodeF m (t.take (2 ^ m)) (v + 1) (L, sn)).2).2.1) (v, (Sp.nodeF m (t.take (2 ^ m)) (v + 1) (L, sn)).1, (Sp.nodeF m ((t.drop (2 ^ m)).take (t.length - 2 ^ m)) (v + 1) (Sp.nodeF m (t.take (2 ^ m)) (v + 1) (L, sn)).2).1)).getD 0)) := by rw [Sp.nodeF_step rfl rfl, if_neg (by rw [hc2]; decide), if_neg hc3, if_pos hc4]
            rw [hres] at e
            subst e
            refine endsB_ret (resB_eq (resB_tmp rfl rfl (Sees.of rfl)) ?_) ⟨rfl, rfl, rfl, rfl, rfl, trivial⟩ rfl
            rfl

theorem Built_spec (n : Nat) (t : List Bool) (hn : n ≤ 16) (ht : t.length = 2 ^ n) :
    Spec Go.Proofs.Try.prog 93 [.val (bytes (t.map Sp.b01))] (two (dia (Sp.diaBuilt n t).1 (Sp.diaBuilt n t).2.1) (fault (Sp.diaBuilt n t).2.2.1 (Sp.diaBuilt n t).2.2.2)) := by
  refine spec_of' Go.Proofs.Try.func93 rfl Go.Proofs.Try.ntmps93 rfl ?_
  refine f_seq ?_
  refine f_region ?_
  refine scons (r_alloc (ob := 10002) rfl wDia3_zer67 rfl rfl rfl rfl rfl rfl) ?_
  refine scons (r_alloc (ob := 10003) rfl wDia3_zer26 rfl rfl rfl rfl rfl rfl) ?_
  refine snil ?_
  refine f_seq ?_
  refine f_region ?_
  refine scons (r_makeMap (ob := 30002) vCho vInt rfl rfl rfl rfl rfl rfl) ?_
  refine scons (r_makeMap (ob := 30003) Value.string vInt rfl rfl rfl rfl rfl rfl) ?_
  refine scons (CStep.step (PStep.c (p_buildV rfl wDia3_plc181 wDia3_zer181 rfl rfl ⟨_, _, _, _, _, rfl, rfl, rfl, (Sees.of rfl), (oneAt_map rfl), ⟨_, _, _, _, _, rfl, rfl, rfl, (Sees.of rfl), (oneAt_map rfl), ⟨rfl, rfl⟩⟩⟩ rfl)) rfl rfl rfl rfl) ?_
  refine scons (r_box (ob := 30000) rfl (Sees.of rfl) rfl rfl rfl rfl rfl rfl) ?_
  refine scons (CStep.step (PStep.c (p_assign (y := .ref _ _ _) rfl (Sees.of rfl) rfl)) rfl rfl rfl rfl) ?_
  refine snil ?_
  refine f_seq ?_
  refine f_le (GLe.le (g_adoptB (ob := 30000) (off := 0) (o1 := 30001) 79 3 24 dCho (0, 0, 0) rfl rfl rfl rfl rfl rfl rfl)) ?_ (by simp)
  have hp16 := Sp.pow16 hn
  have hnl := Sp.nodeF_len n (t.map Sp.b01) 1 ([], [])
  have hnb := Sp.node_built ht
  simp at hnl
  refine f_region ?_
  refine scons (CStep.step (PStep.c (p_move (y := .ref _ _ _) rfl (Sees.of rfl) rfl)) rfl rfl rfl rfl) ?_
  refine scons (CStep.step (PStep.c (p_move (y := .val _) rfl (Sees.of rfl) rfl)) rfl rfl rfl rfl) ?_
  refine scons (r_callB rfl wDia3_isf135 (node_spec (n + 1) n (t.map Sp.b01) 1 [] [] _ (by omega) (by rw [List.length_map]; exact ht) hn (fun x hx => by obtain ⟨b, _, rfl⟩ := List.mem_map.1 hx; exact Sp.b01_le b) (by omega) (by simp; omega) rfl) ⟨_, _, rfl, (Sees.of rfl), ⟨_, _, rfl, (Sees.of rfl), ⟨_, _, rfl, (Sees.of rfl), rfl⟩⟩⟩ ⟨rfl, rfl, rfl, rfl, trivial⟩ rfl rfl rfl rfl rfl rfl) ?_
  refine scons (CStep.step (PStep.c (p_assign (y := .val _) rfl (Sees.of rfl) rfl)) rfl rfl rfl rfl) ?_
  refine snil ?_
  refine f_seq ?_
  refine f_seq ?_
  refine f_region ?_
  refine scons (CStep.step (PStep.c (p_move (y := .ref _ _ _) rfl (Sees.of rfl) rfl)) rfl rfl rfl rfl) ?_
  refine scons (CStep.step (PStep.c (p_nilRef rfl (Sees.of rfl) rfl)) rfl rfl rfl rfl) ?_
  refine scons (CStep.step (PStep.c (p_fieldRef rfl wDia3_fld181_0 wDia3_siz65 rfl (Sees.of rfl) rfl)) rfl rfl rfl rfl) ?_
  refine scons (CStep.step (PStep.c (p_loadB (y := .row _ _) rfl wDia3_agg65 (Sees.of rfl) rfl rfl rfl rfl)) rfl rfl rfl rfl) ?_
  refine scons (CStep.step (PStep.c (p_lenR rfl wDia3_isl65 (Sees.of rfl) rfl)) rfl rfl rfl rfl) ?_
  refine scons (CStep.step (PStep.c (p_gtr rfl (Sees.of rfl) (Sees.of rfl))) rfl rfl rfl rfl) ?_
  refine snil ?_
  refine f_cond rfl ?_ ?_
  · intro hc1
    try simp only [bs] at hc1
    refine f_seq ?_
    refine f_region ?_
    refine scons (CStep.step (PStep.c (p_build rfl wDia3_plc67 wDia3_zer67 (by decide) wDia3_zch67 rfl rfl)) rfl rfl rfl rfl) ?_
    refine scons (CStep.step (PStep.c (p_build rfl wDia3_plc26 wDia3_zer26 (by decide) wDia3_zch26 ⟨_, _, _, rfl, rfl, rfl, (Sees.of rfl), rfl⟩ rfl)) rfl rfl rfl rfl) ?_
    refine scons (r_storeS rfl wDia3_siz67 rfl rfl rfl (Sees.of rfl) rfl (Sees.of rfl) rfl rfl rfl rfl) ?_
    refine scons (r_storeS rfl wDia3_siz26 rfl rfl rfl (Sees.of rfl) rfl (Sees.of rfl) rfl rfl rfl rfl) ?_
    refine snil ?_
    refine f_ret ?_
    refine ends_ret (res_eq (res2 rfl (res_cell (by rfl) rfl rfl wDia3_agg67 wDia3_siz67 rfl rfl) (res_cell (by rfl) rfl rfl wDia3_agg26 wDia3_siz26 rfl rfl)) ?_)
    rw [Sp.diaBuilt, if_pos (by rw [← hnb.2]; omega)]
    all_goals rfl
  · intro hc1
    try simp only [bs] at hc1
    refine f_skip ?_
    refine f_seq ?_
    refine f_region ?_
    refine scons (CStep.step (PStep.c (p_move (y := .ref _ _ _) rfl (Sees.of rfl) rfl)) rfl rfl rfl rfl) ?_
    refine scons (CStep.step (PStep.c (p_nilRef rfl (Sees.of rfl) rfl)) rfl rfl rfl rfl) ?_
    refine scons (CStep.step (PStep.c (p_fieldRef rfl wDia3_fld181_0 wDia3_siz65 rfl (Sees.of rfl) rfl)) rfl rfl rfl rfl) ?_
    refine scons (CStep.step (PStep.c (p_loadB (y := .row _ _) rfl wDia3_agg65 (Sees.of rfl) rfl rfl rfl rfl)) rfl rfl rfl rfl) ?_
    refine scons (CStep.step (PStep.c (p_move (y := .val _) rfl (Sees.of rfl) rfl)) rfl rfl rfl rfl) ?_
    refine scons (LStep.pre (g_freeze (k := 24) (o1 := 30001) rfl rfl rfl rfl) (CStep.step (PStep.c (p_build rfl wDia3_plc67 wDia3_zer67 (by decide) wDia3_zch67 ⟨_, _, _, rfl, rfl, rfl, (Sees.of rfl), ⟨_, _, _, rfl, rfl, rfl, (Sees.of rfl), rfl⟩⟩ rfl)) rfl rfl rfl rfl)) ?_
    refine scons (CStep.step (PStep.c (p_build rfl wDia3_plc26 wDia3_zer26 (by decide) wDia3_zch26 rfl rfl)) rfl rfl rfl rfl) ?_
    refine scons (r_storeS rfl wDia3_siz67 rfl rfl rfl (Sees.of rfl) rfl (Sees.of rfl) rfl rfl rfl rfl) ?_
    refine scons (r_storeS rfl wDia3_siz26 rfl rfl rfl (Sees.of rfl) rfl (Sees.of rfl) rfl rfl rfl rfl) ?_
    refine snil ?_
    refine f_ret ?_
    refine ends_ret (res_eq (res2 rfl (res_cell (by rfl) rfl rfl wDia3_agg67 wDia3_siz67 rfl rfl) (res_cell (by rfl) rfl rfl wDia3_agg26 wDia3_siz26 rfl rfl)) ?_)
    rw [Sp.diaBuilt, if_neg (by rw [← hnb.2]; omega), ← hnb.1, ← hnb.2]
    all_goals rfl

theorem grow_spec (f k : Nat) (l : List Sp.Cho) (t : List Bool) (v : Int) (hmf : k < f) (ht : t.length = 2 ^ k) (hm : k ≤ 16) (hv : 0 ≤ v ∧ v + k ≤ 1000) (hL : l.length + 2 ^ k ≤ 1000000) :
    Spec Go.Proofs.Try.prog 95 [.val (chos l), .val (bools t), iv v] (two (chos (Sp.grow k l t v).1) (di (Sp.grow k l t v).2)) := by
  induction f generalizing k l t v with
  | zero => omega
  | succ f ih =>
    refine spec_of' Go.Proofs.Try.func95 rfl Go.Proofs.Try.ntmps95 rfl ?_
    refine f_seq ?_
    have hk16 := Sp.pow16 hm
    refine f_region ?_
    refine scons (CStep.step (PStep.c (p_assign (y := .emp) rfl (Sees.of rfl) rfl)) rfl rfl rfl rfl) ?_
    refine scons (CStep.step (PStep.c (p_assign (y := .val _) rfl (Sees.of rfl) rfl)) rfl rfl rfl rfl) ?_
    refine snil ?_
    refine f_seq ?_
    refine f_seq ?_
    refine f_region ?_
    refine scons (CStep.step (PStep.c (p_move (y := .val _) rfl (Sees.of rfl) rfl)) rfl rfl rfl rfl) ?_
    refine scons (CStep.step (PStep.c (p_len rfl wDia3_isl24 (Sees.of rfl))) rfl rfl rfl rfl) ?_
    refine scons (CStep.step (PStep.c (p_eql rfl (Sees.of rfl) (Sees.of rfl))) rfl rfl rfl rfl) ?_
    refine snil ?_
    refine f_cond rfl ?_ ?_
    · intro hc1
      try simp only [bs] at hc1
      refine f_seq ?_
      refine f_seq ?_
      obtain rfl : k = 0 := by
        rcases Nat.eq_zero_or_pos k with h | h
        · exact h
        · have h3 : 2 ^ k = 1 := by omega
          have h4 := Nat.pow_lt_pow_right (a := 2) (by decide) h
          exact absurd h4 (by rw [h3]; decide)
      refine f_region ?_
      refine scons (CStep.step (PStep.c (p_move (y := .val _) rfl (Sees.of rfl) rfl)) rfl rfl rfl rfl) ?_
      refine scons (CStep.step (PStep.c ((by first | exact p_indexN rfl wDia3_isl24 wDia3_siz4 (Sees.of rfl) (Sees.of rfl) (by omega) | exact p_index rfl wDia3_isl24 wDia3_siz4 (Sees.of rfl) (Sees.of rfl) (by omega) (by omega)))) rfl rfl rfl rfl) ?_
      refine scons (CStep.step (PStep.c (p_load rfl wDia3_agg4 (Sees.of rfl) rfl)) rfl rfl rfl rfl) ?_
      refine snil ?_
      refine f_cond rfl ?_ ?_
      · intro hc2
        try simp only [bs] at hc2
        refine f_seq ?_
        refine f_region ?_
        refine scons (CStep.step (PStep.c (p_move (y := .val _) rfl (Sees.of rfl) rfl)) rfl rfl rfl rfl) ?_
        refine scons (CStep.step (PStep.c (p_assign (y := .val _) rfl (Sees.of rfl) rfl)) rfl rfl rfl rfl) ?_
        refine scons (CStep.step (PStep.c (p_assign (y := .val _) rfl (Sees.of rfl) rfl)) rfl rfl rfl rfl) ?_
        refine snil ?_
        refine f_ret ?_
        refine ends_ret (res_eq (res2 rfl (res_tmp rfl (Sees.of rfl)) (res_tmp rfl (Sees.of rfl))) ?_)
        have e : Sp.b01 (t.getD 0 false) = 1 := (Sp.b01_one _).2 hc2
        rw [Sp.grow, e]
        all_goals rfl
      · intro hc2
        try simp only [bs] at hc2
        refine f_skip ?_
        refine f_seq ?_
        refine f_region ?_
        refine scons (CStep.step (PStep.c (p_move (y := .val _) rfl (Sees.of rfl) rfl)) rfl rfl rfl rfl) ?_
        refine scons (CStep.step (PStep.c (p_assign (y := .val _) rfl (Sees.of rfl) rfl)) rfl rfl rfl rfl) ?_
        refine scons (CStep.step (PStep.c (p_assign (y := .val _) rfl (Sees.of rfl) rfl)) rfl rfl rfl rfl) ?_
        refine snil ?_
        refine f_ret ?_
        refine ends_ret (res_eq (res2 rfl (res_tmp rfl (Sees.of rfl)) (res_tmp rfl (Sees.of rfl))) ?_)
        have e : Sp.b01 (t.getD 0 false) = 0 := by unfold Sp.b01; rw [if_neg (by intro h; have h2 : t.getD (Int.toNat 0) false = true := h; rw [h2] at hc2; cases hc2)]
        rw [Sp.grow, e]
        all_goals rfl
    · intro hc1
      try simp only [bs] at hc1
      obtain ⟨m, rfl⟩ : ∃ q, k = q + 1 := ⟨k - 1, by
        rcases Nat.eq_zero_or_pos k with h | h
        · subst h; simp at ht; omega
        · omega⟩
      have hp : 2 ^ (m + 1) = 2 ^ m + 2 ^ m := by rw [Nat.pow_succ]; omega
      have hp1 : 1 ≤ 2 ^ m := Nat.one_le_two_pow
      have hh : ((t.length : Int) / 2) = ((2 ^ m : Nat) : Int) := by omega
      have hlA := Sp.grow_len m l (t.take (2 ^ m)) (v + 1)
      have hlB := Sp.grow_len m (Sp.grow m l (t.take (2 ^ m)) (v + 1)).1 ((t.drop (2 ^ m)).take (t.length - 2 ^ m)) (v + 1)
      refine f_skip ?_
      refine f_seq ?_
      refine f_region ?_
      refine scons (CStep.step (PStep.c (p_move (y := .val _) rfl (Sees.of rfl) rfl)) rfl rfl rfl rfl) ?_
      refine scons (CStep.step (PStep.c (p_move (y := .val _) rfl (Sees.of rfl) rfl)) rfl rfl rfl rfl) ?_
      refine scons (CStep.step (PStep.c (p_move (y := .val _) rfl (Sees.of rfl) rfl)) rfl rfl rfl rfl) ?_
      refine scons (CStep.step (PStep.c (p_len rfl wDia3_isl24 (Sees.of rfl))) rfl rfl rfl rfl) ?_
      refine scons (CStep.step (PStep.c (p_quo rfl (Sees.of rfl) (Sees.of rfl) (by omega) (by omega))) rfl rfl rfl rfl) ?_
      rw [hh]
      refine scons (CStep.step (PStep.c (p_slice (l := 0) (h := 2 ^ m) rfl wDia3_isl24 wDia3_siz4 (Sees.of rfl) rfl (Sees.of rfl) (by omega) (by omega))) rfl rfl rfl rfl) ?_
      refine scons (CStep.step (PStep.c (p_move (y := .val _) rfl (Sees.of rfl) rfl)) rfl rfl rfl rfl) ?_
      refine scons (CStep.step (PStep.c (p_add rfl (Sees.of rfl) (Sees.of rfl) (by omega))) rfl rfl rfl rfl) ?_
      refine scons (CStep.step (c_call rfl wDia3_isf95 ⟨_, _, rfl, (Sees.of rfl), rfl, ⟨_, _, rfl, (Sees.of rfl), rfl, ⟨_, _, rfl, (Sees.of rfl), rfl, rfl⟩⟩⟩ (ih m l (t.take (2 ^ m)) (v + 1) (by omega) (by rw [List.length_take]; omega) (by omega) (by omega) (by omega))) rfl rfl rfl rfl) ?_
      refine scons (CStep.step (PStep.c (p_move (y := .val _) rfl (Sees.of rfl) rfl)) rfl rfl rfl rfl) ?_
      refine scons (CStep.step (PStep.c (p_extract rfl (Sees.of rfl) rfl)) rfl rfl rfl rfl) ?_
      refine scons (CStep.step (PStep.c (p_extract rfl (Sees.of rfl) rfl)) rfl rfl rfl rfl) ?_
      refine scons (CStep.step (PStep.c (p_assign (y := .val _) rfl (Sees.of rfl) rfl)) rfl rfl rfl rfl) ?_
      refine scons (CStep.step (PStep.c (p_assign (y := .val _) rfl (Sees.of rfl) rfl)) rfl rfl rfl rfl) ?_
      refine snil ?_
      refine f_seq ?_
      refine f_region ?_
      refine scons (CStep.step (PStep.c (p_move (y := .val _) rfl (Sees.of rfl) rfl)) rfl rfl rfl rfl) ?_
      refine scons (CStep.step (PStep.c (p_move (y := .val _) rfl (Sees.of rfl) rfl)) rfl rfl rfl rfl) ?_
      refine scons (CStep.step (PStep.c (p_move (y := .val _) rfl (Sees.of rfl) rfl)) rfl rfl rfl rfl) ?_
      refine scons (CStep.step (PStep.c (p_len rfl wDia3_isl24 (Sees.of rfl))) rfl rfl rfl rfl) ?_
      refine scons (CStep.step (PStep.c (p_quo rfl (Sees.of rfl) (Sees.of rfl) (by omega) (by omega))) rfl rfl rfl rfl) ?_
      rw [hh]
      refine scons (CStep.step (PStep.c (p_slice (l := 2 ^ m) (h := t.length) rfl wDia3_isl24 wDia3_siz4 (Sees.of rfl) (Sees.of rfl) rfl (by omega) (by omega))) rfl rfl rfl rfl) ?_
      refine scons (CStep.step (PStep.c (p_move (y := .val _) rfl (Sees.of rfl) rfl)) rfl rfl rfl rfl) ?_
      refine scons (CStep.step (PStep.c (p_add rfl (Sees.of rfl) (Sees.of rfl) (by omega))) rfl rfl rfl rfl) ?_
      refine scons (CStep.step (c_call rfl wDia3_isf95 ⟨_, _, rfl, (Sees.of rfl), rfl, ⟨_, _, rfl, (Sees.of rfl), rfl, ⟨_, _, rfl, (Sees.of rfl), rfl, rfl⟩⟩⟩ (ih m (Sp.grow m l (t.take (2 ^ m)) (v + 1)).1 ((t.drop (2 ^ m)).take (t.length - 2 ^ m)) (v + 1) (by omega) (by rw [List.length_take, List.length_drop]; omega) (by omega) (by omega) (by omega))) rfl rfl rfl rfl) ?_
      refine scons (CStep.step (PStep.c (p_move (y := .val _) rfl (Sees.of rfl) rfl)) rfl rfl rfl rfl) ?_
      refine scons (CStep.step (PStep.c (p_extract rfl (Sees.of rfl) rfl)) rfl rfl rfl rfl) ?_
      refine scons (CStep.step (PStep.c (p_extract rfl (Sees.of rfl) rfl)) rfl rfl rfl rfl) ?_
      refine scons (CStep.step (PStep.c (p_assign (y := .val _) rfl (Sees.of rfl) rfl)) rfl rfl rfl rfl) ?_
      refine scons (CStep.step (PStep.c (p_assign (y := .val _) rfl (Sees.of rfl) rfl)) rfl rfl rfl rfl) ?_
      refine snil ?_
      refine f_seq ?_
      refine f_seq ?_
      refine f_region ?_
      refine scons (CStep.step (PStep.c (p_move (y := .val _) rfl (Sees.of rfl) rfl)) rfl rfl rfl rfl) ?_
      refine scons (CStep.step (PStep.c (p_move (y := .val _) rfl (Sees.of rfl) rfl)) rfl rfl rfl rfl) ?_
      refine scons (CStep.step (PStep.c (p_eql rfl (Sees.of rfl) (Sees.of rfl))) rfl rfl rfl rfl) ?_
      refine snil ?_
      refine f_cond rfl ?_ ?_
      · intro hc3
        try simp only [bs] at hc3
        refine f_seq ?_
        refine f_region ?_
        refine scons (CStep.step (PStep.c (p_move (y := .val _) rfl (Sees.of rfl) rfl)) rfl rfl rfl rfl) ?_
        refine scons (CStep.step (PStep.c (p_move (y := .val _) rfl (Sees.of rfl) rfl)) rfl rfl rfl rfl) ?_
        refine scons (CStep.step (PStep.c (p_assign (y := .val _) rfl (Sees.of rfl) rfl)) rfl rfl rfl rfl) ?_
        refine scons (CStep.step (PStep.c (p_assign (y := .val _) rfl (Sees.of rfl) rfl)) rfl rfl rfl rfl) ?_
        refine snil ?_
        refine f_ret ?_
        refine ends_ret (res_eq (res2 rfl (res_tmp rfl (Sees.of rfl)) (res_tmp rfl (Sees.of rfl))) ?_)
        have e : Sp.grow (m + 1) l t v = ((Sp.grow m (Sp.grow m l (t.take (2 ^ m)) (v + 1)).1 ((t.drop (2 ^ m)).take (t.length - 2 ^ m)) (v + 1)).1, (Sp.grow m l (t.take (2 ^ m)) (v + 1)).2) := by rw [Sp.grow_step rfl rfl, Sp.growJ, if_pos hc3]
        rw [e]
        all_goals rfl
      · intro hc3
        try simp only [bs] at hc3
        refine f_skip ?_
        refine f_seq ?_
        refine f_region ?_
        refine scons (CStep.step (PStep.c (p_move (y := .val _) rfl (Sees.of rfl) rfl)) rfl rfl rfl rfl) ?_
        refine scons (CStep.step (PStep.c (p_move (y := .val _) rfl (Sees.of rfl) rfl)) rfl rfl rfl rfl) ?_
        refine scons (CStep.step (PStep.c (p_move (y := .val _) rfl (Sees.of rfl) rfl)) rfl rfl rfl rfl) ?_
        refine scons (CStep.step (PStep.c (p_build rfl wDia3_plc79 wDia3_zer79 (by decide) wDia3_zch79 ⟨_, _, _, rfl, rfl, rfl, (Sees.of rfl), ⟨_, _, _, rfl, rfl, rfl, (Sees.of rfl), ⟨_, _, _, rfl, rfl, rfl, (Sees.of rfl), rfl⟩⟩⟩ rfl)) rfl rfl rfl rfl) ?_
        refine scons (r_alloc (ob := 10010) rfl wDia3_zer79 rfl rfl rfl rfl rfl rfl) ?_
        refine scons (r_storeS rfl wDia3_siz79 rfl rfl rfl (Sees.of rfl) rfl (Sees.of rfl) rfl rfl rfl rfl) ?_
        refine snil ?_
        refine f_seq ?_
        refine f_seq ?_
        refine f_region ?_
        refine scons (CStep.step (PStep.c (p_assign (y := .val _) rfl (Sees.of rfl) rfl)) rfl rfl rfl rfl) ?_
        refine snil ?_
        refine f_block ?_
        refine f_loop (α := Nat) (fun i => i ≤ (Sp.grow m (Sp.grow m l (t.take (2 ^ m)) (v + 1)).1 ((t.drop (2 ^ m)).take (t.length - 2 ^ m)) (v + 1)).1.length ∧ ∀ y ∈ (Sp.grow m (Sp.grow m l (t.take (2 ^ m)) (v + 1)).1 ((t.drop (2 ^ m)).take (t.length - 2 ^ m)) (v + 1)).1.take i, y ≠ (v, (Sp.grow m l (t.take (2 ^ m)) (v + 1)).2, (Sp.grow m (Sp.grow m l (t.take (2 ^ m)) (v + 1)).1 ((t.drop (2 ^ m)).take (t.length - 2 ^ m)) (v + 1)).2)) (fun i => [(11, iv i), (0, .val (chos (Sp.grow m (Sp.grow m l (t.take (2 ^ m)) (v + 1)).1 ((t.drop (2 ^ m)).take (t.length - 2 ^ m)) (v + 1)).1)), (10, .ref 10010 0 0), (10010, .box 0 (.ccons (iv v) (.ccons (iv (Sp.grow m l (t.take (2 ^ m)) (v + 1)).2) (.ccons (iv (Sp.grow m (Sp.grow m l (t.take (2 ^ m)) (v + 1)).1 ((t.drop (2 ^ m)).take (t.length - 2 ^ m)) (v + 1)).2) .cnil))))]) (fun i => (Sp.grow m (Sp.grow m l (t.take (2 ^ m)) (v + 1)).1 ((t.drop (2 ^ m)).take (t.length - 2 ^ m)) (v + 1)).1.length - i) 0 ?_ ?_ ?_
        · exact ⟨Nat.zero_le _, by simp⟩
        · exact le_ofL ⟨rfl, rfl, rfl, rfl, trivial⟩ rfl
        · rintro i ⟨hi, hne⟩
          refine f_seq ?_
          refine f_seq ?_
          refine f_region ?_
          refine scons (CStep.step (PStep.c (p_move (y := .val _) rfl (Sees.of rfl) rfl)) rfl rfl rfl rfl) ?_
          refine scons (CStep.step (PStep.c (p_move (y := .val _) rfl (Sees.of rfl) rfl)) rfl rfl rfl rfl) ?_
          refine scons (CStep.step (PStep.c (p_len rfl wDia3_isl65 (Sees.of rfl))) rfl rfl rfl rfl) ?_
          refine scons (CStep.step (PStep.c (p_lss rfl (Sees.of rfl) (Sees.of rfl))) rfl rfl rfl rfl) ?_
          refine snil ?_
          refine f_cond rfl ?_ ?_
          · intro hc4
            try simp only [bs] at hc4
            refine f_skip ?_
            refine f_seq ?_
            refine f_block ?_
            refine f_seq ?_
            refine f_draw wDia3_mix (by kernel_rfl) ?_
            refine dcons (CStep.step (PStep.c (p_move (y := .val _) rfl (Sees.of rfl) rfl)) rfl rfl rfl rfl) ?_
            refine dcons (CStep.step (PStep.c (p_move (y := .val _) rfl (Sees.of rfl) rfl)) rfl rfl rfl rfl) ?_
            refine dcons (CStep.step (PStep.c ((by first | exact p_indexN rfl wDia3_isl65 wDia3_siz79 (Sees.of rfl) (Sees.of rfl) (by omega) | exact p_index rfl wDia3_isl65 wDia3_siz79 (Sees.of rfl) (Sees.of rfl) (by omega) (by omega)))) rfl rfl rfl rfl) ?_
            refine dcons (CStep.step (PStep.c (p_loadS rfl wDia3_agg79 wDia3_siz79 (Sees.of rfl) ⟨rfl, fun h => R_len rfl h⟩)) rfl rfl rfl rfl) ?_
            refine dcons (CStep.step (PStep.c (p_loadBS rfl wDia3_agg79 wDia3_siz79 (Sees.of rfl) rfl rfl rfl)) rfl rfl rfl rfl) ?_
            refine dcons (CStep.step (PStep.c (p_eqlS3 rfl wDia3_eq379 (Sees.of rfl) (Sees.of rfl))) rfl rfl rfl rfl) ?_
            refine dnil (by kernel_rfl) ?_
            refine f_cond rfl ?_ ?_
            · intro hc5
              try simp only [bs] at hc5
              refine f_seq ?_
              refine f_region ?_
              refine scons (CStep.step (PStep.c (p_move (y := .val _) rfl (Sees.of rfl) rfl)) rfl rfl rfl rfl) ?_
              refine scons (CStep.step (PStep.c (p_move (y := .val _) rfl (Sees.of rfl) rfl)) rfl rfl rfl rfl) ?_
              refine scons (CStep.step (PStep.c (p_add rfl (Sees.of rfl) (Sees.of rfl) (by omega))) rfl rfl rfl rfl) ?_
              refine scons (CStep.step (PStep.c (p_assign (y := .val _) rfl (Sees.of rfl) rfl)) rfl rfl rfl rfl) ?_
              refine scons (CStep.step (PStep.c (p_assign (y := .val _) rfl (Sees.of rfl) rfl)) rfl rfl rfl rfl) ?_
              refine snil ?_
              refine f_ret ?_
              refine ends_ret (res_eq (res2 rfl (res_tmp rfl (Sees.of rfl)) (res_tmp rfl (Sees.of rfl))) ?_)
              have hk := Sp.known_at (L := (Sp.grow m (Sp.grow m l (t.take (2 ^ m)) (v + 1)).1 ((t.drop (2 ^ m)).take (t.length - 2 ^ m)) (v + 1)).1) (c := (v, (Sp.grow m l (t.take (2 ^ m)) (v + 1)).2, (Sp.grow m (Sp.grow m l (t.take (2 ^ m)) (v + 1)).1 ((t.drop (2 ^ m)).take (t.length - 2 ^ m)) (v + 1)).2)) (i := i) (by omega) (Prod.ext hc5.1 (Prod.ext hc5.2.1 hc5.2.2)) hne
              have e : Sp.grow (m + 1) l t v = ((Sp.grow m (Sp.grow m l (t.take (2 ^ m)) (v + 1)).1 ((t.drop (2 ^ m)).take (t.length - 2 ^ m)) (v + 1)).1, (i : Int) + 2) := by rw [Sp.grow_step rfl rfl, Sp.growJ, if_neg hc3, hk, if_pos (show (Option.some ((i : Int) + 2)).isSome = true from rfl), Option.getD_some]
              rw [e]
              all_goals rfl
            · intro hc5
              try simp only [bs] at hc5
              refine f_skip ?_
              refine f_nil ?_
              show AWs _ _ _ _ _
              refine f_region ?_
              refine scons (CStep.step (PStep.c (p_move (y := .val _) rfl (Sees.of rfl) rfl)) rfl rfl rfl rfl) ?_
              refine scons (CStep.step (PStep.c (p_add rfl (Sees.of rfl) (Sees.of rfl) (by omega))) rfl rfl rfl rfl) ?_
              refine scons (CStep.step (PStep.c (p_assign (y := .val _) rfl (Sees.of rfl) rfl)) rfl rfl rfl rfl) ?_
              refine snil ?_
              refine f_back ⟨i + 1, ?_, ?_, le_ofL ⟨rfl, rfl, rfl, rfl, trivial⟩ rfl⟩
              · exact ⟨by omega, Sp.step_all (z := (0, 0, 0)) (by omega) hne (fun e => by rw [e] at hc5; simp at hc5)⟩
              · omega
          · intro hc4
            try simp only [bs] at hc4
            refine f_exit ?_
            show AWs _ _ _ _ _
            refine f_seq ?_
            refine f_draw wDia3_mix (by kernel_rfl) ?_
            refine dcons (r_buildRow (f := dCho) (za := (0, 0, 0)) (xs := []) (by_ := 24) (ob := 10068) rfl rfl wDia3_isl65 wDia3_siz79 wDia3_zer79 rfl rfl (by decide) rfl rfl rfl rfl rfl rfl) ?_
            refine dcons (CStep.step (PStep.c (p_move (y := .val _) rfl (Sees.of rfl) rfl)) rfl rfl rfl rfl) ?_
            refine dcons (r_appendR (ob := 10070) rfl wDia3_isl65 wDia3_siz79 wDia3_byt79 wDia3_zer79 rfl rfl (Sees.of rfl) rfl (Sees.of rfl) (by simp only [List.length_cons, List.length_nil, List.length_append]; omega) (by simp only [List.length_cons, List.length_nil, List.length_append]; omega) rfl rfl rfl rfl rfl) ?_
            refine dcons (CStep.step (PStep.c (p_loadBS rfl wDia3_agg79 wDia3_siz79 (Sees.of rfl) rfl rfl rfl)) rfl rfl rfl rfl) ?_
            refine dcons (CStep.step (c_buildSlice (f := dCho) (za := (0, 0, 0)) (xs := [.tmp 71]) rfl rfl wDia3_isl65 wDia3_siz79 wDia3_zer79 rfl rfl ⟨(_, _, _), _, rfl, (Sees.of rfl), rfl, rfl, rfl⟩) rfl rfl rfl rfl) ?_
            refine dcons (r_appendR (ob := 10073) rfl wDia3_isl65 wDia3_siz79 wDia3_byt79 wDia3_zer79 rfl rfl (Sees.of rfl) rfl (Sees.of rfl) (by simp only [List.length_cons, List.length_nil, List.length_append]; omega) (by simp only [List.length_cons, List.length_nil, List.length_append]; omega) rfl rfl rfl rfl rfl) ?_
            refine dcons (CStep.step (PStep.c (p_move (y := .val _) rfl (Sees.of rfl) rfl)) rfl rfl rfl rfl) ?_
            refine dcons (CStep.step (PStep.c (p_len rfl wDia3_isl65 (Sees.of rfl))) rfl rfl rfl rfl) ?_
            refine dcons (CStep.step (PStep.c (p_add rfl (Sees.of rfl) (Sees.of rfl) (by omega))) rfl rfl rfl rfl) ?_
            refine dcons (CStep.step (PStep.c (p_assign (y := .row _ _) rfl (Sees.of rfl) rfl)) rfl rfl rfl rfl) ?_
            refine dcons (CStep.step (PStep.c (p_assign (y := .val _) rfl (Sees.of rfl) rfl)) rfl rfl rfl rfl) ?_
            refine dnil (by kernel_rfl) ?_
            refine f_ret ?_
            refine ends_ret (res_eq (res2 rfl (res_row rfl rfl rfl) (res_tmp rfl (Sees.of rfl))) ?_)
            have hk := (Sp.known_not (Sp.grow m (Sp.grow m l (t.take (2 ^ m)) (v + 1)).1 ((t.drop (2 ^ m)).take (t.length - 2 ^ m)) (v + 1)).1 (v, (Sp.grow m l (t.take (2 ^ m)) (v + 1)).2, (Sp.grow m (Sp.grow m l (t.take (2 ^ m)) (v + 1)).1 ((t.drop (2 ^ m)).take (t.length - 2 ^ m)) (v + 1)).2)).2 (fun h => hne _ (by rw [List.take_of_length_le (by omega)]; exact h) rfl)
            have e : Sp.grow (m + 1) l t v = ((Sp.grow m (Sp.grow m l (t.take (2 ^ m)) (v + 1)).1 ((t.drop (2 ^ m)).take (t.length - 2 ^ m)) (v + 1)).1 ++ [(v, (Sp.grow m l (t.take (2 ^ m)) (v + 1)).2, (Sp.grow m (Sp.grow m l (t.take (2 ^ m)) (v + 1)).1 ((t.drop (2 ^ m)).take (t.length - 2 ^ m)) (v + 1)).2)], ((Sp.grow m (Sp.grow m l (t.take (2 ^ m)) (v + 1)).1 ((t.drop (2 ^ m)).take (t.length - 2 ^ m)) (v + 1)).1.length : Int) + 2) := by rw [Sp.grow_step rfl rfl, Sp.growJ, if_neg hc3, hk, if_neg (by decide)]
            rw [e]
            all_goals rfl

theorem DiaOf_spec (n : Nat) (t : List Bool) (hn : n ≤ 16) (ht : t.length = 2 ^ n) :
    Spec Go.Proofs.Try.prog 46 [.val (bools t)] (dia (Sp.grow n [] t 1).1 (Sp.grow n [] t 1).2) := by
  refine spec_of' Go.Proofs.Try.func46 rfl Go.Proofs.Try.ntmps46 rfl ?_
  refine f_seq ?_
  have hp16 := Sp.pow16 hn
  refine f_region ?_
  refine scons (r_alloc (ob := 10002) rfl wDia3_zer67 rfl rfl rfl rfl rfl rfl) ?_
  refine snil ?_
  refine f_seq ?_
  refine f_region ?_
  refine scons (CStep.step (PStep.c (p_move (y := .val _) rfl (Sees.of rfl) rfl)) rfl rfl rfl rfl) ?_
  refine scons (CStep.step (c_call rfl wDia3_isf95 ⟨_, _, rfl, (Sees.emp rfl _ _ _), rfl, ⟨_, _, rfl, (Sees.of rfl), rfl, ⟨_, _, rfl, (Sees.of rfl), rfl, rfl⟩⟩⟩ (grow_spec (n + 1) n [] t 1 (by omega) ht hn (by omega) (by simp; omega))) rfl rfl rfl rfl) ?_
  refine scons (CStep.step (PStep.c (p_move (y := .val _) rfl (Sees.of rfl) rfl)) rfl rfl rfl rfl) ?_
  refine scons (CStep.step (PStep.c (p_extract rfl (Sees.of rfl) rfl)) rfl rfl rfl rfl) ?_
  refine scons (CStep.step (PStep.c (p_extract rfl (Sees.of rfl) rfl)) rfl rfl rfl rfl) ?_
  refine scons (CStep.step (PStep.c (p_assign (y := .val _) rfl (Sees.of rfl) rfl)) rfl rfl rfl rfl) ?_
  refine scons (CStep.step (PStep.c (p_assign (y := .val _) rfl (Sees.of rfl) rfl)) rfl rfl rfl rfl) ?_
  refine snil ?_
  refine f_seq ?_
  refine f_region ?_
  refine scons (CStep.step (PStep.c (p_move (y := .val _) rfl (Sees.of rfl) rfl)) rfl rfl rfl rfl) ?_
  refine scons (CStep.step (PStep.c (p_move (y := .val _) rfl (Sees.of rfl) rfl)) rfl rfl rfl rfl) ?_
  refine scons (CStep.step (PStep.c (p_build rfl wDia3_plc67 wDia3_zer67 (by decide) wDia3_zch67 ⟨_, _, _, rfl, rfl, rfl, (Sees.of rfl), ⟨_, _, _, rfl, rfl, rfl, (Sees.of rfl), rfl⟩⟩ rfl)) rfl rfl rfl rfl) ?_
  refine scons (r_storeS rfl wDia3_siz67 rfl rfl rfl (Sees.of rfl) rfl (Sees.of rfl) rfl rfl rfl rfl) ?_
  refine snil ?_
  refine f_ret ?_
  refine ends_ret (res_eq (res1 rfl (res_cell (by rfl) rfl rfl wDia3_agg67 wDia3_siz67 rfl rfl)) ?_)
  rfl

theorem DiaSame_spec (l : List Sp.Cho) (r : Int) (l' : List Sp.Cho) (r' : Int) :
    Spec Go.Proofs.Try.prog 37 [.val (dia l r), .val (dia l' r')] (D.bool (decide (l = l' ∧ r = r'))) := by
  refine spec_of' Go.Proofs.Try.func37 rfl Go.Proofs.Try.ntmps37 rfl ?_
  refine f_seq ?_
  refine f_wf (.tmp 0) rfl (fun hwf => ?_) (by simp)
  have hlen : l.length ≤ 140737488355328 := hwf.1.1
  clear hwf
  refine f_region ?_
  refine scons (r_box (ob := 10002) rfl (Sees.of rfl) rfl rfl rfl rfl rfl rfl) ?_
  refine scons (r_box (ob := 10003) rfl (Sees.of rfl) rfl rfl rfl rfl rfl rfl) ?_
  refine scons (CStep.step (PStep.c (p_assign (y := .val _) rfl (Sees.of rfl) rfl)) rfl rfl rfl rfl) ?_
  refine snil ?_
  refine f_seq ?_
  refine f_seq ?_
  refine f_region ?_
  refine scons (CStep.step (PStep.c (p_fieldRef rfl wDia3_fld67_1 wDia3_siz3 rfl (Sees.of rfl) rfl)) rfl rfl rfl rfl) ?_
  refine scons (CStep.step (PStep.c (p_loadB (y := .val _) rfl wDia3_agg3 (Sees.of rfl) rfl rfl rfl rfl)) rfl rfl rfl rfl) ?_
  refine scons (CStep.step (PStep.c (p_fieldRef rfl wDia3_fld67_1 wDia3_siz3 rfl (Sees.of rfl) rfl)) rfl rfl rfl rfl) ?_
  refine scons (CStep.step (PStep.c (p_loadB (y := .val _) rfl wDia3_agg3 (Sees.of rfl) rfl rfl rfl rfl)) rfl rfl rfl rfl) ?_
  refine scons (CStep.step (PStep.c (p_neq rfl (Sees.of rfl) (Sees.of rfl))) rfl rfl rfl rfl) ?_
  refine scons (CStep.step (PStep.c (p_move (y := .val _) rfl (Sees.of rfl) rfl)) rfl rfl rfl rfl) ?_
  refine scons (CStep.guard rfl rfl rfl (fun hg0 => PStep.c (p_fieldRef rfl wDia3_fld67_0 wDia3_siz65 rfl (Sees.of rfl) rfl)) rfl rfl rfl rfl rfl) ?_
  refine scons (CStep.guard rfl rfl rfl (fun hg0 => PStep.c (p_loadB (y := .val _) rfl wDia3_agg65 (Sees.gv' rfl hg0) rfl rfl rfl rfl)) rfl rfl rfl rfl rfl) ?_
  refine scons (CStep.guard rfl rfl rfl (fun hg0 => PStep.c (p_len rfl wDia3_isl65 (Sees.gv' rfl hg0))) rfl rfl rfl rfl rfl) ?_
  refine scons (CStep.guard rfl rfl rfl (fun hg0 => PStep.c (p_fieldRef rfl wDia3_fld67_0 wDia3_siz65 rfl (Sees.of rfl) rfl)) rfl rfl rfl rfl rfl) ?_
  refine scons (CStep.guard rfl rfl rfl (fun hg0 => PStep.c (p_loadB (y := .val _) rfl wDia3_agg65 (Sees.gv' rfl hg0) rfl rfl rfl rfl)) rfl rfl rfl rfl rfl) ?_
  refine scons (CStep.guard rfl rfl rfl (fun hg0 => PStep.c (p_len rfl wDia3_isl65 (Sees.gv' rfl hg0))) rfl rfl rfl rfl rfl) ?_
  refine scons (CStep.guard rfl rfl rfl (fun hg0 => PStep.c (p_neq rfl (Sees.gv' rfl hg0) (Sees.gv' rfl hg0))) rfl rfl rfl rfl rfl) ?_
  refine scons (CStep.step (PStep.c (p_or rfl (Sees.of rfl) (Sees.of rfl) (fun h => Sees.gv' rfl (beq_of_eq h)))) rfl rfl rfl rfl) ?_
  refine snil ?_
  refine f_cond rfl ?_ ?_
  · intro hc1
    try simp only [bs] at hc1
    refine f_seq ?_
    refine f_region ?_
    refine scons (CStep.step (PStep.c (p_assign (y := .val _) rfl (Sees.of rfl) rfl)) rfl rfl rfl rfl) ?_
    refine snil ?_
    refine f_ret ?_
    refine ends_ret (res_eq (res1 rfl (res_tmp rfl (Sees.of rfl))) ?_)
    rw [decide_eq_false (fun h => by rw [h.1, h.2] at hc1; simp at hc1)]
  · intro hc1
    try simp only [bs] at hc1
    refine f_skip ?_
    refine f_seq ?_
    refine f_seq ?_
    refine f_region ?_
    refine scons (CStep.step (PStep.c (p_assign (y := .val _) rfl (Sees.of rfl) rfl)) rfl rfl rfl rfl) ?_
    refine snil ?_
    refine f_block ?_
    refine f_loop (α := Nat) (fun i => i ≤ l.length ∧ ∀ j, j < i → l.getD j (0, 0, 0) = l'.getD j (0, 0, 0)) (fun i => [(5, iv i), (2, .ref 10002 0 0), (3, .ref 10003 0 0), (10002, .box 0 (.ccons (.val (chos l)) (.ccons (iv r) .cnil))), (10003, .box 0 (.ccons (.val (chos l')) (.ccons (iv r') .cnil)))]) (fun i => l.length - i) 0 ?_ ?_ ?_
    · exact ⟨Nat.zero_le _, fun j hj => absurd hj (Nat.not_lt_zero _)⟩
    · exact le_ofL ⟨rfl, rfl, rfl, rfl, rfl, trivial⟩ rfl
    · rintro i ⟨hi, hp⟩
      refine f_seq ?_
      refine f_seq ?_
      refine f_region ?_
      refine scons (CStep.step (PStep.c (p_move (y := .val _) rfl (Sees.of rfl) rfl)) rfl rfl rfl rfl) ?_
      refine scons (CStep.step (PStep.c (p_fieldRef rfl wDia3_fld67_0 wDia3_siz65 rfl (Sees.of rfl) rfl)) rfl rfl rfl rfl) ?_
      refine scons (CStep.step (PStep.c (p_loadB (y := .val _) rfl wDia3_agg65 (Sees.of rfl) rfl rfl rfl rfl)) rfl rfl rfl rfl) ?_
      refine scons (CStep.step (PStep.c (p_len rfl wDia3_isl65 (Sees.of rfl))) rfl rfl rfl rfl) ?_
      refine scons (CStep.step (PStep.c (p_lss rfl (Sees.of rfl) (Sees.of rfl))) rfl rfl rfl rfl) ?_
      refine snil ?_
      refine f_cond rfl ?_ ?_
      · intro hc2
        try simp only [bs] at hc2
        refine f_skip ?_
        refine f_seq ?_
        refine f_block ?_
        refine f_seq ?_
        refine f_draw wDia3_mix (by kernel_rfl) ?_
        refine dcons (CStep.step (PStep.c (p_fieldRef rfl wDia3_fld67_0 wDia3_siz65 rfl (Sees.of rfl) rfl)) rfl rfl rfl rfl) ?_
        refine dcons (CStep.step (PStep.c (p_loadB (y := .val _) rfl wDia3_agg65 (Sees.of rfl) rfl rfl rfl rfl)) rfl rfl rfl rfl) ?_
        refine dcons (CStep.step (PStep.c (p_move (y := .val _) rfl (Sees.of rfl) rfl)) rfl rfl rfl rfl) ?_
        refine dcons (CStep.step (PStep.c ((by first | exact p_indexN rfl wDia3_isl65 wDia3_siz79 (Sees.of rfl) (Sees.of rfl) (by omega) | exact p_index rfl wDia3_isl65 wDia3_siz79 (Sees.of rfl) (Sees.of rfl) (by omega) (by omega)))) rfl rfl rfl rfl) ?_
        refine dcons (CStep.step (PStep.c (p_loadS rfl wDia3_agg79 wDia3_siz79 (Sees.of rfl) ⟨rfl, fun h => R_len rfl h⟩)) rfl rfl rfl rfl) ?_
        refine dcons (CStep.step (PStep.c (p_fieldRef rfl wDia3_fld67_0 wDia3_siz65 rfl (Sees.of rfl) rfl)) rfl rfl rfl rfl) ?_
        refine dcons (CStep.step (PStep.c (p_loadB (y := .val _) rfl wDia3_agg65 (Sees.of rfl) rfl rfl rfl rfl)) rfl rfl rfl rfl) ?_
        refine dcons (CStep.step (PStep.c (p_move (y := .val _) rfl (Sees.of rfl) rfl)) rfl rfl rfl rfl) ?_
        refine dcons (CStep.step (PStep.c ((by first | exact p_indexN rfl wDia3_isl65 wDia3_siz79 (Sees.of rfl) (Sees.of rfl) (by omega) | exact p_index rfl wDia3_isl65 wDia3_siz79 (Sees.of rfl) (Sees.of rfl) (by omega) (by omega)))) rfl rfl rfl rfl) ?_
        refine dcons (CStep.step (PStep.c (p_loadS rfl wDia3_agg79 wDia3_siz79 (Sees.of rfl) ⟨rfl, fun h => R_len rfl h⟩)) rfl rfl rfl rfl) ?_
        refine dcons (CStep.step (PStep.c (p_neqS3 rfl wDia3_eq379 (Sees.of rfl) (Sees.of rfl))) rfl rfl rfl rfl) ?_
        refine dnil (by kernel_rfl) ?_
        refine f_cond rfl ?_ ?_
        · intro hc3
          try simp only [bs] at hc3
          refine f_seq ?_
          refine f_region ?_
          refine scons (CStep.step (PStep.c (p_assign (y := .val _) rfl (Sees.of rfl) rfl)) rfl rfl rfl rfl) ?_
          refine snil ?_
          refine f_ret ?_
          refine ends_ret (res_eq (res1 rfl (res_tmp rfl (Sees.of rfl))) ?_)
          rw [decide_eq_false (fun h => by rw [h.1] at hc3; simp at hc3)]
        · intro hc3
          try simp only [bs] at hc3
          refine f_skip ?_
          refine f_nil ?_
          show AWs _ _ _ _ _
          refine f_region ?_
          refine scons (CStep.step (PStep.c (p_move (y := .val _) rfl (Sees.of rfl) rfl)) rfl rfl rfl rfl) ?_
          refine scons (CStep.step (PStep.c (p_add rfl (Sees.of rfl) (Sees.of rfl) (by omega))) rfl rfl rfl rfl) ?_
          refine scons (CStep.step (PStep.c (p_assign (y := .val _) rfl (Sees.of rfl) rfl)) rfl rfl rfl rfl) ?_
          refine snil ?_
          refine f_back ⟨i + 1, ?_, ?_, le_ofL ⟨rfl, rfl, rfl, rfl, rfl, trivial⟩ rfl⟩
          · refine ⟨by omega, fun j hj => ?_⟩
            by_cases e : j = i
            · rw [e]; exact Prod.ext hc3.1 (Prod.ext hc3.2.1 hc3.2.2)
            · exact hp j (by omega)
          · omega
      · intro hc2
        try simp only [bs] at hc2
        refine f_exit ?_
        show AWs _ _ _ _ _
        refine f_seq ?_
        refine f_region ?_
        refine scons (CStep.step (PStep.c (p_assign (y := .val _) rfl (Sees.of rfl) rfl)) rfl rfl rfl rfl) ?_
        refine snil ?_
        refine f_ret ?_
        refine ends_ret (res_eq (res1 rfl (res_tmp rfl (Sees.of rfl))) ?_)
        rw [decide_eq_true ⟨Sp.eq_of_getD (by omega) (by omega) hp, hc1.1⟩]

theorem DiaNone_spec (l : List Sp.Cho) (r : Int) :
    Spec Go.Proofs.Try.prog 35 [.val (dia l r)] (D.bool (decide (r = 0) && decide ((l.length : Int) = 0))) := by
  refine spec_of' Go.Proofs.Try.func35 rfl Go.Proofs.Try.ntmps35 rfl ?_
  refine f_seq ?_
  refine f_region ?_
  refine scons (r_box (ob := 10001) rfl (Sees.of rfl) rfl rfl rfl rfl rfl rfl) ?_
  refine scons (CStep.step (PStep.c (p_assign (y := .val _) rfl (Sees.of rfl) rfl)) rfl rfl rfl rfl) ?_
  refine snil ?_
  refine f_seq ?_
  refine f_region ?_
  refine scons (CStep.step (PStep.c (p_fieldRef rfl wDia3_fld67_1 wDia3_siz3 rfl (Sees.of rfl) rfl)) rfl rfl rfl rfl) ?_
  refine scons (CStep.step (PStep.c (p_loadB (y := .val _) rfl wDia3_agg3 (Sees.of rfl) rfl rfl rfl rfl)) rfl rfl rfl rfl) ?_
  refine scons (CStep.step (PStep.c (p_eql rfl (Sees.of rfl) (Sees.of rfl))) rfl rfl rfl rfl) ?_
  refine scons (CStep.step (PStep.c (p_move (y := .val _) rfl (Sees.of rfl) rfl)) rfl rfl rfl rfl) ?_
  refine scons (CStep.guard rfl rfl rfl (fun hg0 => PStep.c (p_fieldRef rfl wDia3_fld67_0 wDia3_siz65 rfl (Sees.of rfl) rfl)) rfl rfl rfl rfl rfl) ?_
  refine scons (CStep.guard rfl rfl rfl (fun hg0 => PStep.c (p_loadB (y := .val _) rfl wDia3_agg65 (Sees.gv' rfl hg0) rfl rfl rfl rfl)) rfl rfl rfl rfl rfl) ?_
  refine scons (CStep.guard rfl rfl rfl (fun hg0 => PStep.c (p_len rfl wDia3_isl65 (Sees.gv' rfl hg0))) rfl rfl rfl rfl rfl) ?_
  refine scons (CStep.guard rfl rfl rfl (fun hg0 => PStep.c (p_eql rfl (Sees.gv' rfl hg0) (Sees.of rfl))) rfl rfl rfl rfl rfl) ?_
  refine scons (CStep.step (PStep.c (p_and rfl (Sees.of rfl) (fun h => Sees.gv' rfl (beq_of_eq h)) (Sees.of rfl))) rfl rfl rfl rfl) ?_
  refine scons (CStep.step (PStep.c (p_assign (y := .val _) rfl (Sees.of rfl) rfl)) rfl rfl rfl rfl) ?_
  refine snil ?_
  refine f_ret ?_
  refine ends_ret (res_eq (res1 rfl (res_tmp rfl (Sees.of rfl))) ?_)
  rfl

end Go.Um
