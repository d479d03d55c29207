/- Walks of Go functions of this seat, each by its contract. No condition beyond what each theorem says. -/
import Derived.Test.YtfabigjdelfagaaEff
import Derived.Test.YtfabigjdelfagaaMap
import Derived.Test.YtfabigjdelfagaaWSat
import Derived.Test.YtfabigjdelfagaaSp7
import Derived.Test.YtfabigjdelfagaaProg
import Derived.KernelRfl
set_option maxRecDepth 4000
namespace Go.Um
open Go Go.RowKit

theorem wDia_agg104 : IsAgg Go.Proofs.Try.prog 104 false := by unfold IsAgg; kernel_rfl
theorem wDia_agg28 : IsAgg Go.Proofs.Try.prog 28 true := by unfold IsAgg; kernel_rfl
theorem wDia_agg3 : IsAgg Go.Proofs.Try.prog 3 false := by unfold IsAgg; kernel_rfl
theorem wDia_agg39 : IsAgg Go.Proofs.Try.prog 39 false := by unfold IsAgg; kernel_rfl
theorem wDia_agg4 : IsAgg Go.Proofs.Try.prog 4 false := by unfold IsAgg; kernel_rfl
theorem wDia_agg41 : IsAgg Go.Proofs.Try.prog 41 true := by unfold IsAgg; kernel_rfl
theorem wDia_agg45 : IsAgg Go.Proofs.Try.prog 45 false := by unfold IsAgg; kernel_rfl
theorem wDia_agg96 : IsAgg Go.Proofs.Try.prog 96 true := by unfold IsAgg; kernel_rfl
theorem wDia_byt3 : Bytes Go.Proofs.Try.prog 3 8 := by unfold Bytes; kernel_rfl
theorem wDia_byt4 : Bytes Go.Proofs.Try.prog 4 1 := by unfold Bytes; kernel_rfl
theorem wDia_eq396 : Eq3 Go.Proofs.Try.prog 96 := ⟨_, _, _, Go.Proofs.Try.underlying96, by decide, by decide, by decide, rfl, rfl, rfl, Go.Proofs.Try.underlying3, Go.Proofs.Try.underlying3, Go.Proofs.Try.underlying3, by kernel_rfl, by kernel_rfl⟩
theorem wDia_fld41_0 : IsField Go.Proofs.Try.prog 41 0 0 39 := by unfold IsField; kernel_rfl
theorem wDia_fld41_1 : IsField Go.Proofs.Try.prog 41 1 1 3 := by unfold IsField; kernel_rfl
theorem wDia_fld96_0 : IsField Go.Proofs.Try.prog 96 0 0 3 := by unfold IsField; kernel_rfl
theorem wDia_fld96_1 : IsField Go.Proofs.Try.prog 96 1 1 3 := by unfold IsField; kernel_rfl
theorem wDia_fld96_2 : IsField Go.Proofs.Try.prog 96 2 2 3 := by unfold IsField; kernel_rfl
theorem wDia_isf59 : IsFn Go.Proofs.Try.prog 59 := by unfold IsFn; kernel_rfl
theorem wDia_isf60 : IsFn Go.Proofs.Try.prog 60 := by unfold IsFn; kernel_rfl
theorem wDia_isf75 : IsFn Go.Proofs.Try.prog 75 := by unfold IsFn; kernel_rfl
theorem wDia_isf83 : IsFn Go.Proofs.Try.prog 83 := by unfold IsFn; kernel_rfl
theorem wDia_isf84 : IsFn Go.Proofs.Try.prog 84 := by unfold IsFn; kernel_rfl
theorem wDia_isf85 : IsFn Go.Proofs.Try.prog 85 := by unfold IsFn; kernel_rfl
theorem wDia_isf96 : IsFn Go.Proofs.Try.prog 96 := by unfold IsFn; kernel_rfl
theorem wDia_isl32 : IsSlice Go.Proofs.Try.prog 32 3 := by unfold IsSlice; kernel_rfl
theorem wDia_isl39 : IsSlice Go.Proofs.Try.prog 39 96 := by unfold IsSlice; kernel_rfl
theorem wDia_isl45 : IsSlice Go.Proofs.Try.prog 45 4 := by unfold IsSlice; kernel_rfl
theorem wDia_mix : (Go.Proofs.Try.prog).follows .mixedOrders = true := by kernel_rfl
theorem wDia_mty124 : MapTy Go.Proofs.Try.prog 124 96 4 vCho dCho Value.bool D.bool false := mapTy_cho (by kernel_rfl) ⟨_, _, _, Go.Proofs.Try.underlying96, by decide, by decide, by decide, rfl, rfl, rfl, Go.Proofs.Try.underlying3, Go.Proofs.Try.underlying3, Go.Proofs.Try.underlying3, by kernel_rfl, by kernel_rfl⟩ (by unfold Zero; kernel_rfl) (fun a _ _ => val_bool a) (fun a _ _ v h => valr_bool a v h) (fun _ => rfl)
theorem wDia_plc28 : Places Go.Proofs.Try.prog 28 [(0, 1), (1, 1)] := by unfold Places; kernel_rfl
theorem wDia_siz104 : Size Go.Proofs.Try.prog 104 1 := by unfold Size; kernel_rfl
theorem wDia_siz28 : Size Go.Proofs.Try.prog 28 2 := by unfold Size; kernel_rfl
theorem wDia_siz3 : Size Go.Proofs.Try.prog 3 1 := by unfold Size; kernel_rfl
theorem wDia_siz39 : Size Go.Proofs.Try.prog 39 1 := by unfold Size; kernel_rfl
theorem wDia_siz4 : Size Go.Proofs.Try.prog 4 1 := by unfold Size; kernel_rfl
theorem wDia_siz41 : Size Go.Proofs.Try.prog 41 2 := by unfold Size; kernel_rfl
theorem wDia_siz45 : Size Go.Proofs.Try.prog 45 1 := by unfold Size; kernel_rfl
theorem wDia_siz96 : Size Go.Proofs.Try.prog 96 3 := by unfold Size; kernel_rfl
def wDia_z28 : D := .cons (.int .i64 0) (.cons (.int .i64 0) (.nil))
theorem wDia_zch28 : ∀ (ok : Nat → Prop) (w : World), R Go.Proofs.Try.prog wDia_z28 ok w (Value.cells (.agg #[(.int .i64 0), (.int .i64 0)])).toList := fun _ _ => z_int (z_int (z_nil))
theorem wDia_zer104 : Zero Go.Proofs.Try.prog 104 .nilFunc := by unfold Zero; kernel_rfl
theorem wDia_zer28 : Zero Go.Proofs.Try.prog 28 (.agg #[(.int .i64 0), (.int .i64 0)]) := by unfold Zero; kernel_rfl
theorem wDia_zer3 : Zero Go.Proofs.Try.prog 3 (.int .i64 0) := by unfold Zero; kernel_rfl
theorem wDia_zer4 : Zero Go.Proofs.Try.prog 4 (.bool false) := by unfold Zero; kernel_rfl
theorem wDia_zer45 : Zero Go.Proofs.Try.prog 45 (.slice none 0 0) := by unfold Zero; kernel_rfl
theorem wDia_zer96 : Zero Go.Proofs.Try.prog 96 (.agg #[(.int .i64 0), (.int .i64 0), (.int .i64 0)]) := by unfold Zero; kernel_rfl

theorem diaIn_spec (k i : Int) (hi : 0 ≤ i ∧ i ≤ 100000) :
    Spec Go.Proofs.Try.prog 83 [iv k, .ptr (di i)] (D.bool (decide (0 ≤ k) && decide (k < i + 2))) := by
  refine spec_of' Go.Proofs.Try.func83 rfl Go.Proofs.Try.ntmps83 rfl ?_
  refine f_seq ?_
  refine f_region ?_
  refine scons (CStep.step (PStep.c (p_assign (y := .val _) rfl (Sees.of rfl) rfl)) rfl rfl rfl rfl) ?_
  refine snil ?_
  refine f_seq ?_
  refine f_region ?_
  refine scons (CStep.step (PStep.c (p_move (y := .val _) rfl (Sees.of rfl) rfl)) rfl rfl rfl rfl) ?_
  refine scons (CStep.step (PStep.c (p_geq rfl (Sees.of rfl) (Sees.of rfl))) rfl rfl rfl rfl) ?_
  refine scons (CStep.step (PStep.c (p_move (y := .val _) rfl (Sees.of rfl) rfl)) rfl rfl rfl rfl) ?_
  refine scons (CStep.guard rfl rfl rfl (fun hg0 => PStep.c (p_move (y := .val _) rfl (Sees.of rfl) rfl)) rfl rfl rfl rfl rfl) ?_
  refine scons (CStep.guard rfl rfl rfl (fun hg0 => PStep.c (p_load rfl wDia_agg3 (Sees.of rfl) rfl)) rfl rfl rfl rfl rfl) ?_
  refine scons (CStep.guard rfl rfl rfl (fun hg0 => by have hp0 := hg0; (try simp only [bs] at hp0); exact PStep.c (p_add rfl (Sees.gv' rfl hg0) (Sees.of rfl) (by omega))) rfl rfl rfl rfl rfl) ?_
  refine scons (CStep.guard rfl rfl rfl (fun hg0 => PStep.c (p_lss rfl (Sees.gv' rfl hg0) (Sees.gv' rfl hg0))) rfl rfl rfl rfl rfl) ?_
  refine scons (CStep.step (PStep.c (p_and rfl (Sees.of rfl) (fun h => Sees.gv' rfl (beq_of_eq h)) (Sees.of rfl))) rfl rfl rfl rfl) ?_
  refine scons (CStep.step (PStep.c (p_assign (y := .val _) rfl (Sees.of rfl) rfl)) rfl rfl rfl rfl) ?_
  refine snil ?_
  refine f_ret ?_
  refine ends_ret (res_eq (res1 rfl (res_tmp rfl (Sees.of rfl))) ?_)
  rfl

theorem level_spec (l : List Sp.Cho) (r i : Int) (h : 0 ≤ i ∧ i < l.length + 2) (hn : l.length ≤ 4000) :
    Spec Go.Proofs.Try.prog 84 [.val (dia l r), iv i] (di (Sp.lev l 17 i)) := by
  refine spec_of' Go.Proofs.Try.func84 rfl Go.Proofs.Try.ntmps84 rfl ?_
  refine f_seq ?_
  refine f_region ?_
  refine scons (r_box (ob := 10002) rfl (Sees.of rfl) rfl rfl rfl rfl rfl rfl) ?_
  refine scons (CStep.step (PStep.c (p_assign (y := .val _) rfl (Sees.of rfl) rfl)) rfl rfl rfl rfl) ?_
  refine snil ?_
  refine f_seq ?_
  refine f_seq ?_
  refine f_region ?_
  refine scons (CStep.step (PStep.c (p_move (y := .val _) rfl (Sees.of rfl) rfl)) rfl rfl rfl rfl) ?_
  refine scons (CStep.step (PStep.c (p_lss rfl (Sees.of rfl) (Sees.of rfl))) rfl rfl rfl rfl) ?_
  refine snil ?_
  refine f_cond rfl ?_ ?_
  · intro hc1
    try simp only [bs] at hc1
    refine f_seq ?_
    refine f_region ?_
    refine scons (CStep.step (PStep.c (p_assign (y := .val _) rfl (Sees.of rfl) rfl)) rfl rfl rfl rfl) ?_
    refine snil ?_
    refine f_ret ?_
    refine ends_ret (res_eq (res1 rfl (res_tmp rfl (Sees.of rfl))) ?_)
    rw [Sp.lev, if_pos hc1]
  · intro hc1
    try simp only [bs] at hc1
    refine f_skip ?_
    refine f_seq ?_
    refine f_region ?_
    refine scons (CStep.step (PStep.c (p_fieldRef rfl wDia_fld41_0 wDia_siz39 rfl (Sees.of rfl) rfl)) rfl rfl rfl rfl) ?_
    refine scons (CStep.step (PStep.c (p_loadB (y := .val _) rfl wDia_agg39 (Sees.of rfl) rfl rfl rfl rfl)) rfl rfl rfl rfl) ?_
    refine scons (CStep.step (PStep.c (p_move (y := .val _) rfl (Sees.of rfl) rfl)) rfl rfl rfl rfl) ?_
    refine scons (CStep.step (PStep.c (p_sub rfl (Sees.of rfl) (Sees.of rfl) (by omega))) rfl rfl rfl rfl) ?_
    refine scons (CStep.step (PStep.c ((by first | exact p_indexN rfl wDia_isl39 wDia_siz96 (Sees.of rfl) (Sees.of rfl) (by omega) | exact p_index rfl wDia_isl39 wDia_siz96 (Sees.of rfl) (Sees.of rfl) (by omega) (by omega)))) rfl rfl rfl rfl) ?_
    refine scons (CStep.step (PStep.c (p_fieldAddr rfl wDia_fld96_0 wDia_siz3 (by decide) (Sees.of rfl) rfl rfl)) rfl rfl rfl rfl) ?_
    refine scons (CStep.step (PStep.c (p_load rfl wDia_agg3 (Sees.of rfl) rfl)) rfl rfl rfl rfl) ?_
    refine scons (CStep.step (PStep.c (p_assign (y := .val _) rfl (Sees.of rfl) rfl)) rfl rfl rfl rfl) ?_
    refine snil ?_
    refine f_ret ?_
    refine ends_ret (res_eq (res1 rfl (res_tmp rfl (Sees.of rfl))) ?_)
    rw [Sp.lev, if_neg (by omega)]
    all_goals rfl

theorem visit_spec (l : List Sp.Cho) (r : Int) (hV : Sp.Valid l) (hn : l.length ≤ 4000) (f : Nat) (i : Int) (ds : List Bool) (nx : Int) (res : Bool × List Bool × Int) (hi : 0 ≤ i ∧ i < f ∧ i < l.length + 2) (hs : Sp.VisOk l (ds, nx)) (hres : Sp.vis l f i (ds, nx) = res) :
    SpecB Go.Proofs.Try.prog 96 [iv i, .ref 30000 0 0, .ref 30001 0 0, .ref 30002 0 0, .ref 30003 0 0] [(30000, .box 0 (.ccons (.row 30004 0) .cnil)), (30001, .box 0 (.ccons (.val (chos l)) (.ccons (iv r) .cnil))), (30002, .box 0 (.ccons (.clo 96 (.ccons (.ref 30000 0 0) (.ccons (.ref 30001 0 0) (.ccons (.ref 30002 0 0) (.ccons (.ref 30003 0 0) .cnil))))) .cnil)), (30003, .box 0 (.ccons (iv nx) .cnil)), (30004, .arr 0 4 1 1 D.bool false ds)] (D.bool res.1) [(30000, .box 0 (.ccons (.row 30004 0) .cnil)), (30001, .box 0 (.ccons (.val (chos l)) (.ccons (iv r) .cnil))), (30002, .box 0 (.ccons (.clo 96 (.ccons (.ref 30000 0 0) (.ccons (.ref 30001 0 0) (.ccons (.ref 30002 0 0) (.ccons (.ref 30003 0 0) .cnil))))) .cnil)), (30003, .box 0 (.ccons (iv res.2.2) .cnil)), (30004, .arr 0 4 1 1 D.bool false res.2.1)] := by
  induction f generalizing i ds nx res with
  | zero => omega
  | succ f ih =>
    refine specB_of' Go.Proofs.Try.func96 rfl Go.Proofs.Try.ntmps96 rfl rfl rfl ?_
    refine f_seq ?_
    refine f_region ?_
    refine scons (CStep.step (PStep.c (p_assign (y := .val _) rfl (Sees.of rfl) rfl)) rfl rfl rfl rfl) ?_
    refine snil ?_
    refine f_seq ?_
    refine f_seq ?_
    have hd := hs.1
    have hx := hs.2
    simp only at hd hx
    refine f_region ?_
    refine scons (CStep.step (PStep.c (p_move (y := .val _) rfl (Sees.of rfl) rfl)) rfl rfl rfl rfl) ?_
    refine scons (CStep.step (PStep.c (p_lss rfl (Sees.of rfl) (Sees.of rfl))) rfl rfl rfl rfl) ?_
    refine scons (CStep.step (PStep.c (p_move (y := .val _) rfl (Sees.of rfl) rfl)) rfl rfl rfl rfl) ?_
    refine scons (CStep.guard rfl rfl rfl (fun hg0 => PStep.c (p_loadB (y := .row _ _) rfl wDia_agg45 (Sees.of rfl) rfl rfl rfl rfl)) rfl rfl rfl rfl rfl) ?_
    refine scons (CStep.guard rfl rfl rfl (fun hg0 => PStep.c (p_move (y := .val _) rfl (Sees.of rfl) rfl)) rfl rfl rfl rfl rfl) ?_
    refine scons (CStep.guard rfl rfl rfl (fun hg0 => by have hp0 := hg0; (try simp only [bs] at hp0); exact PStep.c ((by first | exact p_indexR rfl wDia_isl45 wDia_siz4 (Sees.gv' rfl hg0) rfl (Sees.gv' rfl hg0) (by omega) | exact p_indexRZ rfl wDia_isl45 wDia_siz4 (Sees.gv' rfl hg0) rfl (Sees.gv' rfl hg0) (by omega) (by omega)))) rfl rfl rfl rfl rfl) ?_
    refine scons (CStep.guard rfl rfl rfl (fun hg0 => by have hp0 := hg0; (try simp only [bs] at hp0); exact PStep.c (p_loadE rfl wDia_agg4 (Sees.gv' rfl hg0) rfl (by omega) (fun _ => rfl))) rfl rfl rfl rfl rfl) ?_
    refine scons (CStep.step (PStep.c (p_or rfl (Sees.of rfl) (Sees.of rfl) (fun h => Sees.gv' rfl (beq_of_eq h)))) rfl rfl rfl rfl) ?_
    refine snil ?_
    refine f_cond rfl ?_ ?_
    · intro hc1
      try simp only [bs] at hc1
      refine f_seq ?_
      refine f_region ?_
      refine scons (CStep.step (PStep.c (p_assign (y := .val _) rfl (Sees.of rfl) rfl)) rfl rfl rfl rfl) ?_
      refine snil ?_
      refine f_ret ?_
      have e : Sp.vis l (f + 1) i (ds, nx) = (true, ds, nx) := by rw [Sp.vis, if_pos hc1]
      rw [hres] at e
      subst e
      refine endsB_ret (resB_eq (resB_tmp rfl rfl (Sees.of rfl)) ?_) ⟨rfl, rfl, rfl, rfl, rfl, rfl, trivial⟩ rfl
      rfl
    · intro hc1
      try simp only [bs] at hc1
      refine f_skip ?_
      refine f_seq ?_
      have hv := hV (i - 2).toNat (by omega)
      have hs1 := Sp.vis_ok hV f (l.getD (i - 2).toNat (0, 0, 0)).2.1 (ds, nx) hv.1 (by omega) hs
      have hs2 := Sp.vis_ok hV f (l.getD (i - 2).toNat (0, 0, 0)).2.2 (Sp.vis l f (l.getD (i - 2).toNat (0, 0, 0)).2.1 (ds, nx)).2 hv.2.2.1 (by omega) hs1
      have hd2 := hs2.1
      have hx2 := hs2.2
      refine f_region ?_
      refine scons (CStep.step (PStep.c (p_fieldRef rfl wDia_fld41_0 wDia_siz39 rfl (Sees.of rfl) rfl)) rfl rfl rfl rfl) ?_
      refine scons (CStep.step (PStep.c (p_loadB (y := .val _) rfl wDia_agg39 (Sees.of rfl) rfl rfl rfl rfl)) rfl rfl rfl rfl) ?_
      refine scons (CStep.step (PStep.c (p_move (y := .val _) rfl (Sees.of rfl) rfl)) rfl rfl rfl rfl) ?_
      refine scons (CStep.step (PStep.c (p_sub rfl (Sees.of rfl) (Sees.of rfl) (by omega))) rfl rfl rfl rfl) ?_
      refine scons (CStep.step (PStep.c ((by first | exact p_indexN rfl wDia_isl39 wDia_siz96 (Sees.of rfl) (Sees.of rfl) (by omega) | exact p_index rfl wDia_isl39 wDia_siz96 (Sees.of rfl) (Sees.of rfl) (by omega) (by omega)))) rfl rfl rfl rfl) ?_
      refine scons (CStep.step (PStep.c (p_loadS rfl wDia_agg96 wDia_siz96 (Sees.of rfl) ⟨rfl, fun h => R_len rfl h⟩)) rfl rfl rfl rfl) ?_
      refine scons (r_alloc (ob := 10007) rfl wDia_zer96 rfl rfl rfl rfl rfl rfl) ?_
      refine scons (r_storeS rfl wDia_siz96 rfl rfl rfl (Sees.of rfl) rfl (Sees.of rfl) rfl rfl rfl rfl) ?_
      refine snil ?_
      refine f_seq ?_
      refine f_seq ?_
      refine f_region ?_
      refine scons (CStep.step (PStep.c (p_loadB (y := .clo _ _) rfl wDia_agg104 (Sees.of rfl) rfl rfl rfl rfl)) rfl rfl rfl rfl) ?_
      refine scons (CStep.step (PStep.c (p_fieldRef rfl wDia_fld96_1 wDia_siz3 rfl (Sees.of rfl) rfl)) rfl rfl rfl rfl) ?_
      refine scons (CStep.step (PStep.c (p_loadB (y := .val _) rfl wDia_agg3 (Sees.of rfl) rfl rfl rfl rfl)) rfl rfl rfl rfl) ?_
      refine scons (r_callBC (ys := [iv (l.getD (i - 2).toNat (0, 0, 0)).2.1]) (us := [.ref 30000 0 0, .ref 30001 0 0, .ref 30002 0 0, .ref 30003 0 0]) rfl wDia_isf96 (ih (l.getD (i - 2).toNat (0, 0, 0)).2.1 ds nx _ ⟨hv.1, by omega, by omega⟩ hs rfl) (Sees.of rfl) ⟨_, _, rfl, (Sees.of rfl), rfl⟩ ⟨rfl, rfl, rfl, rfl, rfl, trivial⟩ rfl rfl rfl rfl rfl rfl) ?_
      refine scons (CStep.step (PStep.c (p_not rfl (Sees.of rfl))) rfl rfl rfl rfl) ?_
      refine scons (CStep.step (PStep.c (p_move (y := .val _) rfl (Sees.of rfl) rfl)) rfl rfl rfl rfl) ?_
      rcases Bool.eq_false_or_eq_true ((Sp.vis l f (l.getD (i - 2).toNat (0, 0, 0)).2.1 (ds, nx)).1) with hq1 | hq1
      · skip
        refine scons (LStep.gtrue rfl rfl rfl rfl rfl (by first | exact hq1 | simp only [hq1, Bool.not_true, Bool.not_false] | simp [hq1]) (CStep.step (PStep.c (p_loadB (y := .clo _ _) rfl wDia_agg104 (Sees.of rfl) rfl rfl rfl rfl)) rfl rfl rfl rfl)) ?_
        refine scons (LStep.gtrue rfl rfl rfl rfl rfl (by first | exact hq1 | simp only [hq1, Bool.not_true, Bool.not_false] | simp [hq1]) (CStep.step (PStep.c (p_fieldRef rfl wDia_fld96_2 wDia_siz3 rfl (Sees.of rfl) rfl)) rfl rfl rfl rfl)) ?_
        refine scons (LStep.gtrue rfl rfl rfl rfl rfl (by first | exact hq1 | simp only [hq1, Bool.not_true, Bool.not_false] | simp [hq1]) (CStep.step (PStep.c (p_loadB (y := .val _) rfl wDia_agg3 (Sees.of rfl) rfl rfl rfl rfl)) rfl rfl rfl rfl)) ?_
        refine scons (LStep.gtrue rfl rfl rfl rfl rfl (by first | exact hq1 | simp only [hq1, Bool.not_true, Bool.not_false] | simp [hq1]) (r_callBC (ys := [iv (l.getD (i - 2).toNat (0, 0, 0)).2.2]) (us := [.ref 30000 0 0, .ref 30001 0 0, .ref 30002 0 0, .ref 30003 0 0]) rfl wDia_isf96 (ih (l.getD (i - 2).toNat (0, 0, 0)).2.2 (Sp.vis l f (l.getD (i - 2).toNat (0, 0, 0)).2.1 (ds, nx)).2.1 (Sp.vis l f (l.getD (i - 2).toNat (0, 0, 0)).2.1 (ds, nx)).2.2 (Sp.vis l f (l.getD (i - 2).toNat (0, 0, 0)).2.2 (Sp.vis l f (l.getD (i - 2).toNat (0, 0, 0)).2.1 (ds, nx)).2) ⟨hv.2.2.1, by omega, by omega⟩ hs1 rfl) (Sees.of rfl) ⟨_, _, rfl, (Sees.of rfl), rfl⟩ ⟨rfl, rfl, rfl, rfl, rfl, trivial⟩ rfl rfl rfl rfl rfl rfl)) ?_
        refine scons (LStep.gtrue rfl rfl rfl rfl rfl (by first | exact hq1 | simp only [hq1, Bool.not_true, Bool.not_false] | simp [hq1]) (CStep.step (PStep.c (p_not rfl (Sees.of rfl))) rfl rfl rfl rfl)) ?_
        refine scons (CStep.step (PStep.c (p_or rfl (Sees.of rfl) (Sees.of rfl) (fun _ => (Sees.of rfl)))) rfl rfl rfl rfl) ?_
        refine scons (CStep.step (PStep.c (p_move (y := .val _) rfl (Sees.of rfl) rfl)) rfl rfl rfl rfl) ?_
        refine scons (CStep.guard rfl rfl rfl (fun hg0 => PStep.c (p_move (y := .val _) rfl (Sees.of rfl) rfl)) rfl rfl rfl rfl rfl) ?_
        refine scons (CStep.guard rfl rfl rfl (fun hg0 => PStep.c (p_loadB (y := .val _) rfl wDia_agg3 (Sees.of rfl) rfl rfl rfl rfl)) rfl rfl rfl rfl rfl) ?_
        refine scons (CStep.guard rfl rfl rfl (fun hg0 => PStep.c (p_neq rfl (Sees.gv' rfl hg0) (Sees.gv' rfl hg0))) rfl rfl rfl rfl rfl) ?_
        refine scons (CStep.step (PStep.c (p_or rfl (Sees.of rfl) (Sees.of rfl) (fun h => Sees.gv' rfl (beq_of_eq h)))) rfl rfl rfl rfl) ?_
        refine snil ?_
        refine f_cond rfl ?_ ?_
        · intro hc2
          try simp only [bs] at hc2
          refine f_seq ?_
          refine f_region ?_
          refine scons (CStep.step (PStep.c (p_assign (y := .val _) rfl (Sees.of rfl) rfl)) rfl rfl rfl rfl) ?_
          refine snil ?_
          refine f_ret ?_
          have e : Sp.vis l (f + 1) i (ds, nx) = (false, (Sp.vis l f (l.getD (i - 2).toNat (0, 0, 0)).2.2 (Sp.vis l f (l.getD (i - 2).toNat (0, 0, 0)).2.1 (ds, nx)).2).2) := by
            rw [Sp.vis, if_neg (by simp only []; rw [hc1.2]; intro h; rcases h with h | h; omega; cases h), if_neg (by rw [hq1]; decide)]
            rcases hc2 with h | h
            · rcases h with h | h
              · exact absurd h (by rw [hq1]; decide)
              · rw [if_pos h]
            · by_cases h2 : (Sp.vis l f (l.getD (i - 2).toNat (0, 0, 0)).2.2 (Sp.vis l f (l.getD (i - 2).toNat (0, 0, 0)).2.1 (ds, nx)).2).1 = false
              · rw [if_pos h2]
              · rw [if_neg h2, if_pos h]
          rw [hres] at e
          subst e
          refine endsB_ret (resB_eq (resB_tmp rfl rfl (Sees.of rfl)) ?_) ⟨rfl, rfl, rfl, rfl, rfl, rfl, trivial⟩ rfl
          rfl
        · intro hc2
          try simp only [bs] at hc2
          refine f_skip ?_
          refine f_seq ?_
          refine f_region ?_
          refine scons (CStep.step (PStep.c (p_loadB (y := .row _ _) rfl wDia_agg45 (Sees.of rfl) rfl rfl rfl rfl)) rfl rfl rfl rfl) ?_
          refine scons (CStep.step (PStep.c (p_move (y := .val _) rfl (Sees.of rfl) rfl)) rfl rfl rfl rfl) ?_
          refine scons (CStep.step (PStep.c ((by first | exact p_indexR rfl wDia_isl45 wDia_siz4 (Sees.of rfl) rfl (Sees.of rfl) (by omega) | exact p_indexRZ rfl wDia_isl45 wDia_siz4 (Sees.of rfl) rfl (Sees.of rfl) (by omega) (by omega)))) rfl rfl rfl rfl) ?_
          refine scons (r_storeE rfl wDia_siz4 rfl rfl rfl (Sees.of rfl) rfl (by omega) (Sees.of rfl) rfl) ?_
          refine snil ?_
          refine f_seq ?_
          refine f_region ?_
          refine scons (CStep.step (PStep.c (p_loadB (y := .val _) rfl wDia_agg3 (Sees.of rfl) rfl rfl rfl rfl)) rfl rfl rfl rfl) ?_
          refine scons (CStep.step (PStep.c (p_add rfl (Sees.of rfl) (Sees.of rfl) (by omega))) rfl rfl rfl rfl) ?_
          refine scons (r_store rfl wDia_siz3 rfl rfl rfl (Sees.of rfl) rfl rfl (Sees.of rfl) (one_val rfl)) ?_
          refine snil ?_
          refine f_seq ?_
          refine f_region ?_
          refine scons (CStep.step (PStep.c (p_assign (y := .val _) rfl (Sees.of rfl) rfl)) rfl rfl rfl rfl) ?_
          refine snil ?_
          refine f_ret ?_
          have e : Sp.vis l (f + 1) i (ds, nx) = (true, (Sp.vis l f (l.getD (i - 2).toNat (0, 0, 0)).2.2 (Sp.vis l f (l.getD (i - 2).toNat (0, 0, 0)).2.1 (ds, nx)).2).2.1.set i.toNat true, (Sp.vis l f (l.getD (i - 2).toNat (0, 0, 0)).2.2 (Sp.vis l f (l.getD (i - 2).toNat (0, 0, 0)).2.1 (ds, nx)).2).2.2 + 1) := by
            rw [Sp.vis, if_neg (by simp only []; rw [hc1.2]; intro h; rcases h with h | h; omega; cases h), if_neg (by rw [hq1]; decide), if_neg (by rw [hc2.1.2]; decide), if_neg (fun h => h hc2.2)]
          rw [hres] at e
          subst e
          refine endsB_ret (resB_eq (resB_tmp rfl rfl (Sees.of rfl)) ?_) ⟨rfl, rfl, rfl, rfl, rfl, rfl, trivial⟩ rfl
          rfl
      · skip
        refine scons (LStep.gfalse rfl rfl rfl rfl rfl (by first | exact hq1 | simp only [hq1, Bool.not_true, Bool.not_false] | simp [hq1]) rfl rfl rfl) ?_
        refine scons (LStep.gfalse rfl rfl rfl rfl rfl (by first | exact hq1 | simp only [hq1, Bool.not_true, Bool.not_false] | simp [hq1]) rfl rfl rfl) ?_
        refine scons (LStep.gfalse rfl rfl rfl rfl rfl (by first | exact hq1 | simp only [hq1, Bool.not_true, Bool.not_false] | simp [hq1]) rfl rfl rfl) ?_
        refine scons (LStep.gfalse rfl rfl rfl rfl rfl (by first | exact hq1 | simp only [hq1, Bool.not_true, Bool.not_false] | simp [hq1]) rfl rfl rfl) ?_
        refine scons (LStep.gfalse rfl rfl rfl rfl rfl (by first | exact hq1 | simp only [hq1, Bool.not_true, Bool.not_false] | simp [hq1]) rfl rfl rfl) ?_
        refine scons (CStep.step (PStep.c (p_or (bb := false) rfl (Sees.of rfl) (Sees.of rfl) (fun h => absurd h (by first | simp only [hq1, Bool.not_true, Bool.not_false, Bool.true_eq_false, Bool.false_eq_true, not_false_eq_true] | simp [hq1])))) rfl rfl rfl rfl) ?_
        refine scons (CStep.step (PStep.c (p_move (y := .val _) rfl (Sees.of rfl) rfl)) rfl rfl rfl rfl) ?_
        refine scons (CStep.guard rfl rfl rfl (fun hg0 => PStep.c (p_move (y := .val _) rfl (Sees.of rfl) rfl)) rfl rfl rfl rfl rfl) ?_
        refine scons (CStep.guard rfl rfl rfl (fun hg0 => PStep.c (p_loadB (y := .val _) rfl wDia_agg3 (Sees.of rfl) rfl rfl rfl rfl)) rfl rfl rfl rfl rfl) ?_
        refine scons (CStep.guard rfl rfl rfl (fun hg0 => PStep.c (p_neq rfl (Sees.gv' rfl hg0) (Sees.gv' rfl hg0))) rfl rfl rfl rfl rfl) ?_
        refine scons (CStep.step (PStep.c (p_or rfl (Sees.of rfl) (Sees.of rfl) (fun h => Sees.gv' rfl (beq_of_eq h)))) rfl rfl rfl rfl) ?_
        refine snil ?_
        refine f_cond rfl ?_ ?_
        · intro hc3
          try simp only [bs] at hc3
          refine f_seq ?_
          refine f_region ?_
          refine scons (CStep.step (PStep.c (p_assign (y := .val _) rfl (Sees.of rfl) rfl)) rfl rfl rfl rfl) ?_
          refine snil ?_
          refine f_ret ?_
          have e : Sp.vis l (f + 1) i (ds, nx) = (false, (Sp.vis l f (l.getD (i - 2).toNat (0, 0, 0)).2.1 (ds, nx)).2) := by
            rw [Sp.vis, if_neg (by simp only []; rw [hc1.2]; intro h; rcases h with h | h; omega; cases h), if_pos hq1]
          rw [hres] at e
          subst e
          refine endsB_ret (resB_eq (resB_tmp rfl rfl (Sees.of rfl)) ?_) ⟨rfl, rfl, rfl, rfl, rfl, rfl, trivial⟩ rfl
          rfl
        · intro hc3
          try simp only [bs] at hc3
          exact absurd hc3.1.1 (by rw [hq1]; decide)

theorem finished_spec (l : List Sp.Cho) (r : Int) (hV : Sp.Valid l) (hn : l.length ≤ 4000) (hr : 0 ≤ r ∧ r < l.length + 2) :
    Spec Go.Proofs.Try.prog 85 [.val (dia l r)] (D.bool (Sp.fin l r)) := by
  refine spec_of' Go.Proofs.Try.func85 rfl Go.Proofs.Try.ntmps85 rfl ?_
  refine f_seq ?_
  refine f_region ?_
  refine scons (r_box (ob := 30001) rfl (Sees.of rfl) rfl rfl rfl rfl rfl rfl) ?_
  refine scons (CStep.step (PStep.c (p_assign (y := .val _) rfl (Sees.of rfl) rfl)) rfl rfl rfl rfl) ?_
  refine snil ?_
  refine f_seq ?_
  refine f_region ?_
  refine scons (r_alloc (ob := 30003) rfl wDia_zer3 rfl rfl rfl rfl rfl rfl) ?_
  refine scons (r_store rfl wDia_siz3 rfl rfl rfl (Sees.of rfl) rfl rfl (Sees.of rfl) (one_val rfl)) ?_
  refine snil ?_
  refine f_seq ?_
  refine f_region ?_
  refine scons (CStep.step (PStep.c (p_fieldRef rfl wDia_fld41_0 wDia_siz39 rfl (Sees.of rfl) rfl)) rfl rfl rfl rfl) ?_
  refine scons (CStep.step (PStep.c (p_loadB (y := .val _) rfl wDia_agg39 (Sees.of rfl) rfl rfl rfl rfl)) rfl rfl rfl rfl) ?_
  refine scons (CStep.step (PStep.c (p_len rfl wDia_isl39 (Sees.of rfl))) rfl rfl rfl rfl) ?_
  refine scons (CStep.step (PStep.c (p_add rfl (Sees.of rfl) (Sees.of rfl) (by omega))) rfl rfl rfl rfl) ?_
  refine scons (r_make (m := l.length + 2) (f := D.bool) (z := false) (ob := 30004) rfl wDia_isl45 wDia_siz4 wDia_byt4 wDia_zer4 rfl rfl rfl (fun _ _ => rfl) (Sees.of rfl) (by omega) (by omega) rfl rfl rfl rfl rfl) ?_
  refine scons (r_alloc (ob := 30000) rfl wDia_zer45 rfl rfl rfl rfl rfl rfl) ?_
  refine scons (r_storeR rfl wDia_siz45 rfl rfl rfl (Sees.of rfl) rfl rfl (Sees.of rfl) rfl) ?_
  refine snil ?_
  refine f_seq ?_
  refine f_region ?_
  refine scons (r_alloc (ob := 30002) rfl wDia_zer104 rfl rfl rfl rfl rfl rfl) ?_
  refine snil ?_
  refine f_seq ?_
  refine f_region ?_
  refine scons (CStep.step (PStep.c (p_makeFunc (l := [.tmp 4, .tmp 1, .tmp 5, .tmp 3]) rfl)) rfl rfl rfl rfl) ?_
  refine scons (r_store rfl wDia_siz104 rfl rfl rfl (Sees.of rfl) rfl rfl (Sees.of rfl) one_clo) ?_
  refine snil ?_
  refine f_seq ?_
  refine f_region ?_
  refine scons (CStep.step (PStep.c (p_loadB (y := .clo _ _) rfl wDia_agg104 (Sees.of rfl) rfl rfl rfl rfl)) rfl rfl rfl rfl) ?_
  refine scons (CStep.step (PStep.c (p_fieldRef rfl wDia_fld41_1 wDia_siz3 rfl (Sees.of rfl) rfl)) rfl rfl rfl rfl) ?_
  refine scons (CStep.step (PStep.c (p_loadB (y := .val _) rfl wDia_agg3 (Sees.of rfl) rfl rfl rfl rfl)) rfl rfl rfl rfl) ?_
  refine scons (r_callBC (ys := [iv r]) (us := [.ref 30000 0 0, .ref 30001 0 0, .ref 30002 0 0, .ref 30003 0 0]) rfl wDia_isf96 (visit_spec l r hV hn (r.toNat + 1) r (List.replicate (l.length + 2) false) 2 _ ⟨hr.1, by omega, hr.2⟩ ⟨by simp, by show (0 : Int) ≤ 2; decide, by show (2 : Int) ≤ (l.length : Int) + 2; omega⟩ rfl) (Sees.of rfl) ⟨_, _, rfl, (Sees.of rfl), rfl⟩ ⟨rfl, rfl, rfl, rfl, rfl, trivial⟩ rfl rfl rfl rfl rfl rfl) ?_
  refine scons (CStep.step (PStep.c (p_move (y := .val _) rfl (Sees.of rfl) rfl)) rfl rfl rfl rfl) ?_
  refine scons (CStep.guard rfl rfl rfl (fun hg0 => PStep.c (p_loadB (y := .val _) rfl wDia_agg3 (Sees.of rfl) rfl rfl rfl rfl)) rfl rfl rfl rfl rfl) ?_
  refine scons (CStep.guard rfl rfl rfl (fun hg0 => PStep.c (p_fieldRef rfl wDia_fld41_0 wDia_siz39 rfl (Sees.of rfl) rfl)) rfl rfl rfl rfl rfl) ?_
  refine scons (CStep.guard rfl rfl rfl (fun hg0 => PStep.c (p_loadB (y := .val _) rfl wDia_agg39 (Sees.gv' rfl hg0) rfl rfl rfl rfl)) rfl rfl rfl rfl rfl) ?_
  refine scons (CStep.guard rfl rfl rfl (fun hg0 => PStep.c (p_len rfl wDia_isl39 (Sees.gv' rfl hg0))) rfl rfl rfl rfl rfl) ?_
  refine scons (CStep.guard rfl rfl rfl (fun hg0 => by have hp0 := hg0; (try simp only [bs] at hp0); exact PStep.c (p_add rfl (Sees.gv' rfl hg0) (Sees.of rfl) (by omega))) rfl rfl rfl rfl rfl) ?_
  refine scons (CStep.guard rfl rfl rfl (fun hg0 => PStep.c (p_eql rfl (Sees.gv' rfl hg0) (Sees.gv' rfl hg0))) rfl rfl rfl rfl rfl) ?_
  refine scons (CStep.step (PStep.c (p_and rfl (Sees.of rfl) (fun h => Sees.gv' rfl (beq_of_eq h)) (Sees.of rfl))) rfl rfl rfl rfl) ?_
  refine scons (CStep.step (PStep.c (p_assign (y := .val _) rfl (Sees.of rfl) rfl)) rfl rfl rfl rfl) ?_
  refine snil ?_
  refine f_ret ?_
  refine ends_ret (res_eq (res1 rfl (res_tmp rfl (Sees.of rfl))) ?_)
  rfl

theorem diaCheck_spec (n : Int) (l : List Sp.Cho) (r : Int) :
    Spec Go.Proofs.Try.prog 66 [iv n, .val (dia l r)] (fault (Sp.diaCheck n l r).1 (Sp.diaCheck n l r).2) := by
  refine spec_of' Go.Proofs.Try.func66 rfl Go.Proofs.Try.ntmps66 rfl ?_
  refine f_seq ?_
  refine f_region ?_
  refine scons (r_box (ob := 10003) rfl (Sees.of rfl) rfl rfl rfl rfl rfl rfl) ?_
  refine scons (r_alloc (ob := 10004) rfl wDia_zer28 rfl rfl rfl rfl rfl rfl) ?_
  refine snil ?_
  refine f_seq ?_
  refine f_block ?_
  refine f_seq ?_
  refine f_region ?_
  refine scons (CStep.step (PStep.c (p_move (y := .val _) rfl (Sees.of rfl) rfl)) rfl rfl rfl rfl) ?_
  refine scons (CStep.step (PStep.c (p_lss rfl (Sees.of rfl) (Sees.of rfl))) rfl rfl rfl rfl) ?_
  refine scons (CStep.step (PStep.c (p_move (y := .val _) rfl (Sees.of rfl) rfl)) rfl rfl rfl rfl) ?_
  refine scons (CStep.guard rfl rfl rfl (fun hg0 => PStep.c (p_move (y := .val _) rfl (Sees.of rfl) rfl)) rfl rfl rfl rfl rfl) ?_
  refine scons (CStep.guard rfl rfl rfl (fun hg0 => PStep.c (p_gtr rfl (Sees.gv' rfl hg0) (Sees.of rfl))) rfl rfl rfl rfl rfl) ?_
  refine scons (CStep.step (PStep.c (p_or rfl (Sees.of rfl) (Sees.of rfl) (fun h => Sees.gv' rfl (beq_of_eq h)))) rfl rfl rfl rfl) ?_
  refine scons (CStep.step (PStep.c (p_assign (y := .val _) rfl (Sees.of rfl) rfl)) rfl rfl rfl rfl) ?_
  refine snil ?_
  refine f_cond rfl ?_ ?_
  · intro hc1
    try simp only [bs] at hc1
    refine f_seq ?_
    refine f_region ?_
    refine scons (CStep.step (PStep.c (p_build rfl wDia_plc28 wDia_zer28 (by decide) wDia_zch28 ⟨_, _, _, rfl, rfl, rfl, (Sees.of rfl), rfl⟩ rfl)) rfl rfl rfl rfl) ?_
    refine scons (r_storeS rfl wDia_siz28 rfl rfl rfl (Sees.of rfl) rfl (Sees.of rfl) rfl rfl rfl rfl) ?_
    refine snil ?_
    refine f_ret ?_
    refine ends_ret (res_eq (res1 rfl (res_cell (by rfl) rfl rfl wDia_agg28 wDia_siz28 rfl rfl)) ?_)
    rw [Sp.diaCheck, if_pos hc1]
    all_goals rfl
  · intro hc1
    try simp only [bs] at hc1
    refine f_seq ?_
    refine f_region ?_
    refine scons (CStep.step (PStep.c (p_fieldRef rfl wDia_fld41_0 wDia_siz39 rfl (Sees.of rfl) rfl)) rfl rfl rfl rfl) ?_
    refine scons (CStep.step (PStep.c (p_loadB (y := .val _) rfl wDia_agg39 (Sees.of rfl) rfl rfl rfl rfl)) rfl rfl rfl rfl) ?_
    refine scons (CStep.step (PStep.c (p_len rfl wDia_isl39 (Sees.of rfl))) rfl rfl rfl rfl) ?_
    refine scons (CStep.step (PStep.c (p_gtr rfl (Sees.of rfl) (Sees.of rfl))) rfl rfl rfl rfl) ?_
    refine scons (CStep.step (PStep.c (p_assign (y := .val _) rfl (Sees.of rfl) rfl)) rfl rfl rfl rfl) ?_
    refine snil ?_
    refine f_cond rfl ?_ ?_
    · intro hc2
      try simp only [bs] at hc2
      refine f_seq ?_
      refine f_region ?_
      refine scons (CStep.step (PStep.c (p_build rfl wDia_plc28 wDia_zer28 (by decide) wDia_zch28 ⟨_, _, _, rfl, rfl, rfl, (Sees.of rfl), rfl⟩ rfl)) rfl rfl rfl rfl) ?_
      refine scons (r_storeS rfl wDia_siz28 rfl rfl rfl (Sees.of rfl) rfl (Sees.of rfl) rfl rfl rfl rfl) ?_
      refine snil ?_
      refine f_ret ?_
      refine ends_ret (res_eq (res1 rfl (res_cell (by rfl) rfl rfl wDia_agg28 wDia_siz28 rfl rfl)) ?_)
      rw [Sp.diaCheck, if_neg (by omega), if_pos (by omega)]
      all_goals rfl
    · intro hc2
      try simp only [bs] at hc2
      refine f_skip ?_
      refine f_nil ?_
      show AWs _ _ _ _ _
      refine f_seq ?_
      refine f_region ?_
      refine scons (r_makeMap (ob := 10023) vCho Value.bool rfl rfl rfl rfl rfl rfl) ?_
      refine scons (CStep.step (PStep.c (p_assign (y := .row _ _) rfl (Sees.of rfl) rfl)) rfl rfl rfl rfl) ?_
      refine snil ?_
      refine f_seq ?_
      refine f_seq ?_
      refine f_region ?_
      refine scons (CStep.step (PStep.c (p_fieldRef rfl wDia_fld41_0 wDia_siz39 rfl (Sees.of rfl) rfl)) rfl rfl rfl rfl) ?_
      refine scons (CStep.step (PStep.c (p_loadB (y := .val _) rfl wDia_agg39 (Sees.of rfl) rfl rfl rfl rfl)) rfl rfl rfl rfl) ?_
      refine scons (CStep.step (PStep.c (p_len rfl wDia_isl39 (Sees.of rfl))) rfl rfl rfl rfl) ?_
      refine scons (CStep.step (PStep.c (p_move (y := .val _) rfl (Sees.of rfl) rfl)) rfl rfl rfl rfl) ?_
      refine snil ?_
      refine f_block ?_
      refine f_loop (α := Nat) (fun i => i ≤ l.length ∧ Sp.diaFrom n l 0 = Sp.diaFrom n l i ∧ ∀ j, j < i → Sp.choWrong n l j = 0) (fun i => [(27, iv i), (5, .row 10023 0), (10023, .mp 0 vCho Value.bool ((l.take i).map fun x => (x, true))), (0, iv n), (3, .ref 10003 0 0), (4, .ref 10004 0 0), (25, .val (chos l)), (26, iv l.length), (10003, .box 0 (.ccons (.val (chos l)) (.ccons (iv r) .cnil))), (10004, .box 0 (.ccons (iv 0) (.ccons (iv 0) .cnil)))]) (fun i => l.length - i) 0 ?_ ?_ ?_
      · exact ⟨Nat.zero_le _, rfl, fun j hj => absurd hj (Nat.not_lt_zero _)⟩
      · exact le_ofL ⟨rfl, rfl, rfl, rfl, rfl, rfl, rfl, rfl, rfl, rfl, trivial⟩ rfl
      · rintro i ⟨hi, hp, hall⟩
        refine f_seq ?_
        refine f_region ?_
        refine scons (CStep.step (PStep.c (p_lss rfl (Sees.of rfl) (Sees.of rfl))) rfl rfl rfl rfl) ?_
        refine snil ?_
        refine f_seq ?_
        refine f_cond rfl ?_ ?_
        · intro hc3
          try simp only [bs] at hc3
          refine f_skip ?_
          refine f_seq ?_
          refine f_block ?_
          refine f_seq ?_
          refine f_region ?_
          refine scons (CStep.step (PStep.c (p_move (y := .val _) rfl (Sees.of rfl) rfl)) rfl rfl rfl rfl) ?_
          refine scons (CStep.step (PStep.c ((by first | exact p_indexN rfl wDia_isl39 wDia_siz96 (Sees.of rfl) (Sees.of rfl) (by omega) | exact p_index rfl wDia_isl39 wDia_siz96 (Sees.of rfl) (Sees.of rfl) (by omega) (by omega)))) rfl rfl rfl rfl) ?_
          refine scons (CStep.step (PStep.c (p_loadS rfl wDia_agg96 wDia_siz96 (Sees.of rfl) ⟨rfl, fun h => R_len rfl h⟩)) rfl rfl rfl rfl) ?_
          refine scons (r_alloc (ob := 10006) rfl wDia_zer3 rfl rfl rfl rfl rfl rfl) ?_
          refine scons (r_alloc (ob := 10007) rfl wDia_zer96 rfl rfl rfl rfl rfl rfl) ?_
          refine scons (r_store rfl wDia_siz3 rfl rfl rfl (Sees.of rfl) rfl rfl (Sees.of rfl) (one_val rfl)) ?_
          refine scons (r_storeS rfl wDia_siz96 rfl rfl rfl (Sees.of rfl) rfl (Sees.of rfl) rfl rfl rfl rfl) ?_
          refine snil ?_
          refine f_seq ?_
          refine f_region ?_
          refine scons (CStep.step (PStep.c (p_makeFunc (l := [.tmp 6]) rfl)) rfl rfl rfl rfl) ?_
          refine scons (CStep.step (PStep.c (p_assign (y := .clo _ _) rfl (Sees.of rfl) rfl)) rfl rfl rfl rfl) ?_
          refine snil ?_
          refine f_seq ?_
          refine f_block ?_
          refine f_seq ?_
          refine f_region ?_
          refine scons (CStep.step (PStep.c (p_fieldRef rfl wDia_fld96_0 wDia_siz3 rfl (Sees.of rfl) rfl)) rfl rfl rfl rfl) ?_
          refine scons (CStep.step (PStep.c (p_loadB (y := .val _) rfl wDia_agg3 (Sees.of rfl) rfl rfl rfl rfl)) rfl rfl rfl rfl) ?_
          refine scons (CStep.step (PStep.c (p_lss rfl (Sees.of rfl) (Sees.of rfl))) rfl rfl rfl rfl) ?_
          refine scons (CStep.step (PStep.c (p_move (y := .val _) rfl (Sees.of rfl) rfl)) rfl rfl rfl rfl) ?_
          refine scons (CStep.guard rfl rfl rfl (fun hg0 => PStep.c (p_fieldRef rfl wDia_fld96_0 wDia_siz3 rfl (Sees.of rfl) rfl)) rfl rfl rfl rfl rfl) ?_
          refine scons (CStep.guard rfl rfl rfl (fun hg0 => PStep.c (p_loadB (y := .val _) rfl wDia_agg3 (Sees.gv' rfl hg0) rfl rfl rfl rfl)) rfl rfl rfl rfl rfl) ?_
          refine scons (CStep.guard rfl rfl rfl (fun hg0 => PStep.c (p_move (y := .val _) rfl (Sees.of rfl) rfl)) rfl rfl rfl rfl rfl) ?_
          refine scons (CStep.guard rfl rfl rfl (fun hg0 => PStep.c (p_gtr rfl (Sees.gv' rfl hg0) (Sees.gv' rfl hg0))) rfl rfl rfl rfl rfl) ?_
          refine scons (CStep.step (PStep.c (p_or rfl (Sees.of rfl) (Sees.of rfl) (fun h => Sees.gv' rfl (beq_of_eq h)))) rfl rfl rfl rfl) ?_
          refine scons (CStep.step (PStep.c (p_move (y := .val _) rfl (Sees.of rfl) rfl)) rfl rfl rfl rfl) ?_
          refine scons (CStep.guard rfl rfl rfl (fun hg0 => PStep.c (p_move (y := .clo _ _) rfl (Sees.of rfl) rfl)) rfl rfl rfl rfl rfl) ?_
          refine scons (CStep.guard rfl rfl rfl (fun hg0 => PStep.c (p_fieldRef rfl wDia_fld96_1 wDia_siz3 rfl (Sees.of rfl) rfl)) rfl rfl rfl rfl rfl) ?_
          refine scons (CStep.guard rfl rfl rfl (fun hg0 => PStep.c (p_loadB (y := .val _) rfl wDia_agg3 (Sees.gv' rfl hg0) rfl rfl rfl rfl)) rfl rfl rfl rfl rfl) ?_
          refine scons (CStep.guard rfl rfl rfl (fun hg0 => by have hp0 := hg0; (try simp only [bs] at hp0); exact c_callC (q := true) rfl wDia_isf83 (diaIn_spec (l.getD i (0, 0, 0)).2.1 i (by omega)) (Sees.gv' rfl hg0) (sl_cons (sh_ref1 Sees.same rfl rfl (sh_of Sees.same rfl)) (sl_nil)) (sa_cons (sh_of (Sees.gv' rfl hg0) rfl) (sa_nil)) rfl) rfl rfl rfl rfl rfl) ?_
          refine scons (CStep.guard rfl rfl rfl (fun hg0 => PStep.c (p_not rfl (Sees.gv' rfl hg0))) rfl rfl rfl rfl rfl) ?_
          refine scons (CStep.step (PStep.c (p_or rfl (Sees.of rfl) (Sees.of rfl) (fun h => Sees.gv' rfl (beq_of_eq h)))) rfl rfl rfl rfl) ?_
          refine scons (CStep.step (PStep.c (p_move (y := .val _) rfl (Sees.of rfl) rfl)) rfl rfl rfl rfl) ?_
          refine scons (CStep.guard rfl rfl rfl (fun hg0 => PStep.c (p_move (y := .clo _ _) rfl (Sees.of rfl) rfl)) rfl rfl rfl rfl rfl) ?_
          refine scons (CStep.guard rfl rfl rfl (fun hg0 => PStep.c (p_fieldRef rfl wDia_fld96_2 wDia_siz3 rfl (Sees.of rfl) rfl)) rfl rfl rfl rfl rfl) ?_
          refine scons (CStep.guard rfl rfl rfl (fun hg0 => PStep.c (p_loadB (y := .val _) rfl wDia_agg3 (Sees.gv' rfl hg0) rfl rfl rfl rfl)) rfl rfl rfl rfl rfl) ?_
          refine scons (CStep.guard rfl rfl rfl (fun hg0 => by have hp0 := hg0; (try simp only [bs] at hp0); exact c_callC (q := true) rfl wDia_isf83 (diaIn_spec (l.getD i (0, 0, 0)).2.2 i (by omega)) (Sees.gv' rfl hg0) (sl_cons (sh_ref1 Sees.same rfl rfl (sh_of Sees.same rfl)) (sl_nil)) (sa_cons (sh_of (Sees.gv' rfl hg0) rfl) (sa_nil)) rfl) rfl rfl rfl rfl rfl) ?_
          refine scons (CStep.guard rfl rfl rfl (fun hg0 => PStep.c (p_not rfl (Sees.gv' rfl hg0))) rfl rfl rfl rfl rfl) ?_
          refine scons (CStep.step (PStep.c (p_or rfl (Sees.of rfl) (Sees.of rfl) (fun h => Sees.gv' rfl (beq_of_eq h)))) rfl rfl rfl rfl) ?_
          refine scons (CStep.step (PStep.c (p_assign (y := .val _) rfl (Sees.of rfl) rfl)) rfl rfl rfl rfl) ?_
          refine snil ?_
          refine f_cond rfl ?_ ?_
          · intro hc4
            try simp only [bs] at hc4
            refine f_seq ?_
            refine f_region ?_
            refine scons (CStep.step (PStep.c (p_loadB (y := .val _) rfl wDia_agg3 (Sees.of rfl) rfl rfl rfl rfl)) rfl rfl rfl rfl) ?_
            refine scons (CStep.step (PStep.c (p_build rfl wDia_plc28 wDia_zer28 (by decide) wDia_zch28 ⟨_, _, _, rfl, rfl, rfl, (Sees.of rfl), ⟨_, _, _, rfl, rfl, rfl, (Sees.of rfl), rfl⟩⟩ rfl)) rfl rfl rfl rfl) ?_
            refine scons (r_storeS rfl wDia_siz28 rfl rfl rfl (Sees.of rfl) rfl (Sees.of rfl) rfl rfl rfl rfl) ?_
            refine snil ?_
            refine f_ret ?_
            refine ends_ret (res_eq (res1 rfl (res_cell (by rfl) rfl rfl wDia_agg28 wDia_siz28 rfl rfl)) ?_)
            rw [Sp.dia_at hc1 (by omega) (by omega) hp (c := 3) (by rw [Sp.choWrong, if_pos (by omega)]) (by decide)]
            all_goals rfl
          · intro hc4
            try simp only [bs] at hc4
            refine f_seq ?_
            refine f_draw wDia_mix (by kernel_rfl) ?_
            refine dcons (CStep.step (PStep.c (p_fieldRef rfl wDia_fld96_1 wDia_siz3 rfl (Sees.of rfl) rfl)) rfl rfl rfl rfl) ?_
            refine dcons (CStep.step (PStep.c (p_loadB (y := .val _) rfl wDia_agg3 (Sees.of rfl) rfl rfl rfl rfl)) rfl rfl rfl rfl) ?_
            refine dcons (CStep.step (PStep.c (p_fieldRef rfl wDia_fld96_2 wDia_siz3 rfl (Sees.of rfl) rfl)) rfl rfl rfl rfl) ?_
            refine dcons (CStep.step (PStep.c (p_loadB (y := .val _) rfl wDia_agg3 (Sees.of rfl) rfl rfl rfl rfl)) rfl rfl rfl rfl) ?_
            refine dcons (CStep.step (PStep.c (p_eql rfl (Sees.of rfl) (Sees.of rfl))) rfl rfl rfl rfl) ?_
            refine dcons (CStep.step (PStep.c (p_move (y := .val _) rfl (Sees.of rfl) rfl)) rfl rfl rfl rfl) ?_
            refine dcons (CStep.guard rfl rfl rfl (fun hg0 => PStep.c (p_loadBS rfl wDia_agg41 wDia_siz41 (Sees.of rfl) rfl rfl rfl)) rfl rfl rfl rfl rfl) ?_
            refine dcons (CStep.guard rfl rfl rfl (fun hg0 => PStep.c (p_fieldRef rfl wDia_fld96_1 wDia_siz3 rfl (Sees.of rfl) rfl)) rfl rfl rfl rfl rfl) ?_
            refine dcons (CStep.guard rfl rfl rfl (fun hg0 => PStep.c (p_loadB (y := .val _) rfl wDia_agg3 (Sees.gv' rfl hg0) rfl rfl rfl rfl)) rfl rfl rfl rfl rfl) ?_
            refine dcons (CStep.guard rfl rfl rfl (fun hg0 => by have hp0 := hg0; (try simp only [bs] at hp0); exact c_call rfl wDia_isf84 ⟨_, _, rfl, (Sees.gv' rfl hg0), rfl, ⟨_, _, rfl, (Sees.gv' rfl hg0), rfl, rfl⟩⟩ (level_spec l r (l.getD i (0, 0, 0)).2.1 (by omega) (by omega))) rfl rfl rfl rfl rfl) ?_
            refine dcons (CStep.guard rfl rfl rfl (fun hg0 => PStep.c (p_fieldRef rfl wDia_fld96_0 wDia_siz3 rfl (Sees.of rfl) rfl)) rfl rfl rfl rfl rfl) ?_
            refine dcons (CStep.guard rfl rfl rfl (fun hg0 => PStep.c (p_loadB (y := .val _) rfl wDia_agg3 (Sees.gv' rfl hg0) rfl rfl rfl rfl)) rfl rfl rfl rfl rfl) ?_
            refine dcons (CStep.guard rfl rfl rfl (fun hg0 => PStep.c (p_leq rfl (Sees.gv' rfl hg0) (Sees.gv' rfl hg0))) rfl rfl rfl rfl rfl) ?_
            refine dcons (CStep.step (PStep.c (p_or rfl (Sees.of rfl) (Sees.of rfl) (fun h => Sees.gv' rfl (beq_of_eq h)))) rfl rfl rfl rfl) ?_
            refine dcons (CStep.step (PStep.c (p_move (y := .val _) rfl (Sees.of rfl) rfl)) rfl rfl rfl rfl) ?_
            refine dcons (CStep.guard rfl rfl rfl (fun hg0 => PStep.c (p_loadBS rfl wDia_agg41 wDia_siz41 (Sees.of rfl) rfl rfl rfl)) rfl rfl rfl rfl rfl) ?_
            refine dcons (CStep.guard rfl rfl rfl (fun hg0 => PStep.c (p_fieldRef rfl wDia_fld96_2 wDia_siz3 rfl (Sees.of rfl) rfl)) rfl rfl rfl rfl rfl) ?_
            refine dcons (CStep.guard rfl rfl rfl (fun hg0 => PStep.c (p_loadB (y := .val _) rfl wDia_agg3 (Sees.gv' rfl hg0) rfl rfl rfl rfl)) rfl rfl rfl rfl rfl) ?_
            refine dcons (CStep.guard rfl rfl rfl (fun hg0 => by have hp0 := hg0; (try simp only [bs] at hp0); exact c_call rfl wDia_isf84 ⟨_, _, rfl, (Sees.gv' rfl hg0), rfl, ⟨_, _, rfl, (Sees.gv' rfl hg0), rfl, rfl⟩⟩ (level_spec l r (l.getD i (0, 0, 0)).2.2 (by omega) (by omega))) rfl rfl rfl rfl rfl) ?_
            refine dcons (CStep.guard rfl rfl rfl (fun hg0 => PStep.c (p_fieldRef rfl wDia_fld96_0 wDia_siz3 rfl (Sees.of rfl) rfl)) rfl rfl rfl rfl rfl) ?_
            refine dcons (CStep.guard rfl rfl rfl (fun hg0 => PStep.c (p_loadB (y := .val _) rfl wDia_agg3 (Sees.gv' rfl hg0) rfl rfl rfl rfl)) rfl rfl rfl rfl rfl) ?_
            refine dcons (CStep.guard rfl rfl rfl (fun hg0 => PStep.c (p_leq rfl (Sees.gv' rfl hg0) (Sees.gv' rfl hg0))) rfl rfl rfl rfl rfl) ?_
            refine dcons (CStep.step (PStep.c (p_or rfl (Sees.of rfl) (Sees.of rfl) (fun h => Sees.gv' rfl (beq_of_eq h)))) rfl rfl rfl rfl) ?_
            refine dcons (CStep.step (PStep.c (p_assign (y := .val _) rfl (Sees.of rfl) rfl)) rfl rfl rfl rfl) ?_
            refine dnil (by kernel_rfl) ?_
            refine f_cond rfl ?_ ?_
            · intro hc5
              try simp only [bs] at hc5
              refine f_seq ?_
              refine f_region ?_
              refine scons (CStep.step (PStep.c (p_loadB (y := .val _) rfl wDia_agg3 (Sees.of rfl) rfl rfl rfl rfl)) rfl rfl rfl rfl) ?_
              refine scons (CStep.step (PStep.c (p_build rfl wDia_plc28 wDia_zer28 (by decide) wDia_zch28 ⟨_, _, _, rfl, rfl, rfl, (Sees.of rfl), ⟨_, _, _, rfl, rfl, rfl, (Sees.of rfl), rfl⟩⟩ rfl)) rfl rfl rfl rfl) ?_
              refine scons (r_storeS rfl wDia_siz28 rfl rfl rfl (Sees.of rfl) rfl (Sees.of rfl) rfl rfl rfl rfl) ?_
              refine snil ?_
              refine f_ret ?_
              refine ends_ret (res_eq (res1 rfl (res_cell (by rfl) rfl rfl wDia_agg28 wDia_siz28 rfl rfl)) ?_)
              rw [Sp.dia_at hc1 (by omega) (by omega) hp (c := 5) (by rw [Sp.choWrong, if_neg (by omega), if_pos (by rw [Sp.lev_top _ hc1.2 hc4.1.1.2, Sp.lev_top _ hc1.2 hc4.1.1.2, ← or_assoc]; exact hc5)]) (by decide)]
              all_goals rfl
            · intro hc5
              try simp only [bs] at hc5
              refine f_seq ?_
              refine f_region ?_
              refine scons (CStep.step (PStep.c (p_move (y := .row _ _) rfl (Sees.of rfl) rfl)) rfl rfl rfl rfl) ?_
              refine scons (CStep.step (PStep.c (p_loadBS rfl wDia_agg96 wDia_siz96 (Sees.of rfl) rfl rfl rfl)) rfl rfl rfl rfl) ?_
              refine scons (CStep.step (PStep.c (p_look (k := (l.getD i (0, 0, 0))) rfl wDia_mty124 (Sees.of rfl) rfl (Sees.of rfl))) rfl rfl rfl rfl) ?_
              refine scons (CStep.step (PStep.c (p_assign (y := .val _) rfl (Sees.of rfl) rfl)) rfl rfl rfl rfl) ?_
              refine snil ?_
              refine f_cond rfl ?_ ?_
              · intro hc6
                try simp only [bs] at hc6
                refine f_seq ?_
                refine f_region ?_
                refine scons (CStep.step (PStep.c (p_loadB (y := .val _) rfl wDia_agg3 (Sees.of rfl) rfl rfl rfl rfl)) rfl rfl rfl rfl) ?_
                refine scons (CStep.step (PStep.c (p_build rfl wDia_plc28 wDia_zer28 (by decide) wDia_zch28 ⟨_, _, _, rfl, rfl, rfl, (Sees.of rfl), ⟨_, _, _, rfl, rfl, rfl, (Sees.of rfl), rfl⟩⟩ rfl)) rfl rfl rfl rfl) ?_
                refine scons (r_storeS rfl wDia_siz28 rfl rfl rfl (Sees.of rfl) rfl (Sees.of rfl) rfl rfl rfl rfl) ?_
                refine snil ?_
                refine f_ret ?_
                refine ends_ret (res_eq (res1 rfl (res_cell (by rfl) rfl rfl wDia_agg28 wDia_siz28 rfl rfl)) ?_)
                rw [Sp.getL_set, decide_eq_true_eq] at hc6
                rw [Sp.dia_at hc1 (by omega) (by omega) hp (c := 7) (by rw [Sp.choWrong, if_neg (by omega), if_neg (by rw [Sp.lev_top _ hc1.2 hc4.1.1.2, Sp.lev_top _ hc1.2 hc4.1.1.2]; omega), if_pos hc6]) (by decide)]
                all_goals rfl
              · intro hc6
                try simp only [bs] at hc6
                refine f_skip ?_
                refine f_nil ?_
                show AWs _ _ _ _ _
                refine f_region ?_
                refine scons (CStep.step (PStep.c (p_move (y := .row _ _) rfl (Sees.of rfl) rfl)) rfl rfl rfl rfl) ?_
                refine scons (CStep.step (PStep.c (p_loadBS rfl wDia_agg96 wDia_siz96 (Sees.of rfl) rfl rfl rfl)) rfl rfl rfl rfl) ?_
                refine scons (r_mapPut (k := (l.getD i (0, 0, 0))) rfl wDia_mty124 rfl rfl rfl (Sees.of rfl) rfl (Sees.of rfl) (Sees.of rfl)) ?_
                refine snil ?_
                refine f_nil ?_
                show AWs _ _ _ _ _
                refine f_region ?_
                refine scons (CStep.step (PStep.c (p_add rfl (Sees.of rfl) (Sees.of rfl) (by omega))) rfl rfl rfl rfl) ?_
                refine scons (CStep.step (PStep.c (p_move (y := .val _) rfl (Sees.of rfl) rfl)) rfl rfl rfl rfl) ?_
                refine snil ?_
                rw [Sp.getL_set, decide_eq_false_iff_not] at hc6
                have hw : Sp.choWrong n l i = 0 := by rw [Sp.choWrong, if_neg (by omega), if_neg (by rw [Sp.lev_top _ hc1.2 hc4.1.1.2, Sp.lev_top _ hc1.2 hc4.1.1.2]; omega), if_neg hc6]
                refine f_back ⟨i + 1, ?_, ?_, le_ofL ⟨rfl, rfl, (by rw [← Sp.put_set (by omega) hc6]; rfl), rfl, rfl, rfl, rfl, rfl, rfl, rfl, trivial⟩ rfl⟩
                · exact ⟨by omega, Sp.dia_next (by omega) hp hw, Sp.all_next hall hw⟩
                · omega
        · intro hc3
          try simp only [bs] at hc3
          refine f_exit ?_
          show AWs _ _ _ _ _
          refine f_seq ?_
          refine f_block ?_
          refine f_seq ?_
          refine f_region ?_
          refine scons (CStep.step (PStep.c (p_fieldRef rfl wDia_fld41_1 wDia_siz3 rfl (Sees.of rfl) rfl)) rfl rfl rfl rfl) ?_
          refine scons (CStep.step (PStep.c (p_loadB (y := .val _) rfl wDia_agg3 (Sees.of rfl) rfl rfl rfl rfl)) rfl rfl rfl rfl) ?_
          refine scons (CStep.step (PStep.c (p_lss rfl (Sees.of rfl) (Sees.of rfl))) rfl rfl rfl rfl) ?_
          refine scons (CStep.step (PStep.c (p_move (y := .val _) rfl (Sees.of rfl) rfl)) rfl rfl rfl rfl) ?_
          refine scons (CStep.guard rfl rfl rfl (fun hg0 => PStep.c (p_fieldRef rfl wDia_fld41_1 wDia_siz3 rfl (Sees.of rfl) rfl)) rfl rfl rfl rfl rfl) ?_
          refine scons (CStep.guard rfl rfl rfl (fun hg0 => PStep.c (p_loadB (y := .val _) rfl wDia_agg3 (Sees.gv' rfl hg0) rfl rfl rfl rfl)) rfl rfl rfl rfl rfl) ?_
          refine scons (CStep.guard rfl rfl rfl (fun hg0 => PStep.c (p_fieldRef rfl wDia_fld41_0 wDia_siz39 rfl (Sees.of rfl) rfl)) rfl rfl rfl rfl rfl) ?_
          refine scons (CStep.guard rfl rfl rfl (fun hg0 => PStep.c (p_loadB (y := .val _) rfl wDia_agg39 (Sees.gv' rfl hg0) rfl rfl rfl rfl)) rfl rfl rfl rfl rfl) ?_
          refine scons (CStep.guard rfl rfl rfl (fun hg0 => PStep.c (p_len rfl wDia_isl39 (Sees.gv' rfl hg0))) rfl rfl rfl rfl rfl) ?_
          refine scons (CStep.guard rfl rfl rfl (fun hg0 => by have hp0 := hg0; (try simp only [bs] at hp0); exact PStep.c (p_add rfl (Sees.gv' rfl hg0) (Sees.of rfl) (by omega))) rfl rfl rfl rfl rfl) ?_
          refine scons (CStep.guard rfl rfl rfl (fun hg0 => PStep.c (p_geq rfl (Sees.gv' rfl hg0) (Sees.gv' rfl hg0))) rfl rfl rfl rfl rfl) ?_
          refine scons (CStep.step (PStep.c (p_or rfl (Sees.of rfl) (Sees.of rfl) (fun h => Sees.gv' rfl (beq_of_eq h)))) rfl rfl rfl rfl) ?_
          refine scons (CStep.step (PStep.c (p_assign (y := .val _) rfl (Sees.of rfl) rfl)) rfl rfl rfl rfl) ?_
          refine snil ?_
          refine f_cond rfl ?_ ?_
          · intro hc7
            try simp only [bs] at hc7
            refine f_seq ?_
            refine f_region ?_
            refine scons (CStep.step (PStep.c (p_build rfl wDia_plc28 wDia_zer28 (by decide) wDia_zch28 ⟨_, _, _, rfl, rfl, rfl, (Sees.of rfl), ⟨_, _, _, rfl, rfl, rfl, (Sees.of rfl), rfl⟩⟩ rfl)) rfl rfl rfl rfl) ?_
            refine scons (r_storeS rfl wDia_siz28 rfl rfl rfl (Sees.of rfl) rfl (Sees.of rfl) rfl rfl rfl rfl) ?_
            refine snil ?_
            refine f_ret ?_
            refine ends_ret (res_eq (res1 rfl (res_cell (by rfl) rfl rfl wDia_agg28 wDia_siz28 rfl rfl)) ?_)
            rw [Sp.dia_end hc1 (by omega) (by omega) hp, if_pos hc7]
            all_goals rfl
          · intro hc7
            try simp only [bs] at hc7
            refine f_seq ?_
            refine f_region ?_
            refine scons (CStep.step (PStep.c (p_loadBS rfl wDia_agg41 wDia_siz41 (Sees.of rfl) rfl rfl rfl)) rfl rfl rfl rfl) ?_
            refine scons (CStep.step (c_call rfl wDia_isf85 ⟨_, _, rfl, (Sees.of rfl), rfl, rfl⟩ (finished_spec l r (Sp.valid_of (n := n) (fun j hj => hall j (by omega))) (by omega) (by omega))) rfl rfl rfl rfl) ?_
            refine scons (CStep.step (PStep.c (p_not rfl (Sees.of rfl))) rfl rfl rfl rfl) ?_
            refine scons (CStep.step (PStep.c (p_assign (y := .val _) rfl (Sees.of rfl) rfl)) rfl rfl rfl rfl) ?_
            refine snil ?_
            refine f_cond rfl ?_ ?_
            · intro hc8
              try simp only [bs] at hc8
              refine f_seq ?_
              refine f_region ?_
              refine scons (CStep.step (PStep.c (p_build rfl wDia_plc28 wDia_zer28 (by decide) wDia_zch28 ⟨_, _, _, rfl, rfl, rfl, (Sees.of rfl), ⟨_, _, _, rfl, rfl, rfl, (Sees.of rfl), rfl⟩⟩ rfl)) rfl rfl rfl rfl) ?_
              refine scons (r_storeS rfl wDia_siz28 rfl rfl rfl (Sees.of rfl) rfl (Sees.of rfl) rfl rfl rfl rfl) ?_
              refine snil ?_
              refine f_ret ?_
              refine ends_ret (res_eq (res1 rfl (res_cell (by rfl) rfl rfl wDia_agg28 wDia_siz28 rfl rfl)) ?_)
              rw [Sp.dia_end hc1 (by omega) (by omega) hp, if_neg (by omega), if_neg (by rw [hc8]; decide)]
              all_goals rfl
            · intro hc8
              try simp only [bs] at hc8
              refine f_skip ?_
              refine f_nil ?_
              show AWs _ _ _ _ _
              refine f_seq ?_
              refine f_region ?_
              refine scons (CStep.step (PStep.c (p_build rfl wDia_plc28 wDia_zer28 (by decide) wDia_zch28 rfl rfl)) rfl rfl rfl rfl) ?_
              refine scons (r_storeS rfl wDia_siz28 rfl rfl rfl (Sees.of rfl) rfl (Sees.of rfl) rfl rfl rfl rfl) ?_
              refine snil ?_
              refine f_ret ?_
              refine ends_ret (res_eq (res1 rfl (res_cell (by rfl) rfl rfl wDia_agg28 wDia_siz28 rfl rfl)) ?_)
              rw [Sp.dia_end hc1 (by omega) (by omega) hp, if_neg (by omega), if_pos hc8]
              all_goals rfl

theorem varOf_spec (n : Int) (l : List Sp.Cho) (r i : Int) (h : 0 ≤ i ∧ i < l.length + 2) (hl : l.length ≤ 4000) (hn : 0 ≤ n ∧ n ≤ 16) :
    Spec Go.Proofs.Try.prog 59 [iv n, .val (dia l r), iv i] (di (Sp.lev l (n + 1) i)) := by
  refine spec_of' Go.Proofs.Try.func59 rfl Go.Proofs.Try.ntmps59 rfl ?_
  refine f_seq ?_
  refine f_region ?_
  refine scons (r_box (ob := 10004) rfl (Sees.of rfl) rfl rfl rfl rfl rfl rfl) ?_
  refine scons (CStep.step (PStep.c (p_assign (y := .val _) rfl (Sees.of rfl) rfl)) rfl rfl rfl rfl) ?_
  refine snil ?_
  refine f_seq ?_
  refine f_seq ?_
  refine f_region ?_
  refine scons (CStep.step (PStep.c (p_move (y := .val _) rfl (Sees.of rfl) rfl)) rfl rfl rfl rfl) ?_
  refine scons (CStep.step (PStep.c (p_lss rfl (Sees.of rfl) (Sees.of rfl))) rfl rfl rfl rfl) ?_
  refine snil ?_
  refine f_cond rfl ?_ ?_
  · intro hc1
    try simp only [bs] at hc1
    refine f_seq ?_
    refine f_region ?_
    refine scons (CStep.step (PStep.c (p_move (y := .val _) rfl (Sees.of rfl) rfl)) rfl rfl rfl rfl) ?_
    refine scons (CStep.step (PStep.c (p_add rfl (Sees.of rfl) (Sees.of rfl) (by omega))) rfl rfl rfl rfl) ?_
    refine scons (CStep.step (PStep.c (p_assign (y := .val _) rfl (Sees.of rfl) rfl)) rfl rfl rfl rfl) ?_
    refine snil ?_
    refine f_ret ?_
    refine ends_ret (res_eq (res1 rfl (res_tmp rfl (Sees.of rfl))) ?_)
    rw [Sp.lev, if_pos hc1]
  · intro hc1
    try simp only [bs] at hc1
    refine f_skip ?_
    refine f_seq ?_
    refine f_region ?_
    refine scons (CStep.step (PStep.c (p_fieldRef rfl wDia_fld41_0 wDia_siz39 rfl (Sees.of rfl) rfl)) rfl rfl rfl rfl) ?_
    refine scons (CStep.step (PStep.c (p_loadB (y := .val _) rfl wDia_agg39 (Sees.of rfl) rfl rfl rfl rfl)) rfl rfl rfl rfl) ?_
    refine scons (CStep.step (PStep.c (p_move (y := .val _) rfl (Sees.of rfl) rfl)) rfl rfl rfl rfl) ?_
    refine scons (CStep.step (PStep.c (p_sub rfl (Sees.of rfl) (Sees.of rfl) (by omega))) rfl rfl rfl rfl) ?_
    refine scons (CStep.step (PStep.c ((by first | exact p_indexN rfl wDia_isl39 wDia_siz96 (Sees.of rfl) (Sees.of rfl) (by omega) | exact p_index rfl wDia_isl39 wDia_siz96 (Sees.of rfl) (Sees.of rfl) (by omega) (by omega)))) rfl rfl rfl rfl) ?_
    refine scons (CStep.step (PStep.c (p_fieldAddr rfl wDia_fld96_0 wDia_siz3 (by decide) (Sees.of rfl) rfl rfl)) rfl rfl rfl rfl) ?_
    refine scons (CStep.step (PStep.c (p_load rfl wDia_agg3 (Sees.of rfl) rfl)) rfl rfl rfl rfl) ?_
    refine scons (CStep.step (PStep.c (p_assign (y := .val _) rfl (Sees.of rfl) rfl)) rfl rfl rfl rfl) ?_
    refine snil ?_
    refine f_ret ?_
    refine ends_ret (res_eq (res1 rfl (res_tmp rfl (Sees.of rfl))) ?_)
    rw [Sp.lev, if_neg (by omega)]
    all_goals rfl

theorem rvisit_spec (l : List Sp.Cho) (r : Int) (hV : Sp.Valid l) (hn : l.length ≤ 4000) (f : Nat) (k : Int) (s : List Int) (hk : 0 ≤ k ∧ k < f ∧ k < l.length + 2) (hs : Sp.Inn l s) :
    Spec Go.Proofs.Try.prog 60 [.val (dia l r), iv k, .val (ints s)] (ints (Sp.rvis l f k s)) := by
  induction f generalizing k s with
  | zero => omega
  | succ f ih =>
    refine spec_of' Go.Proofs.Try.func60 rfl Go.Proofs.Try.ntmps60 rfl ?_
    refine f_seq ?_
    refine f_region ?_
    refine scons (r_box (ob := 10003) rfl (Sees.of rfl) rfl rfl rfl rfl rfl rfl) ?_
    refine scons (CStep.step (PStep.c (p_assign (y := .emp) rfl (Sees.of rfl) rfl)) rfl rfl rfl rfl) ?_
    refine snil ?_
    refine f_seq ?_
    refine f_seq ?_
    refine f_region ?_
    refine scons (CStep.step (PStep.c (p_move (y := .val _) rfl (Sees.of rfl) rfl)) rfl rfl rfl rfl) ?_
    refine scons (CStep.step (PStep.c (p_lss rfl (Sees.of rfl) (Sees.of rfl))) rfl rfl rfl rfl) ?_
    refine scons (CStep.step (PStep.c (p_move (y := .val _) rfl (Sees.of rfl) rfl)) rfl rfl rfl rfl) ?_
    refine scons (CStep.guard rfl rfl rfl (fun hg0 => PStep.c (p_move (y := .val _) rfl (Sees.of rfl) rfl)) rfl rfl rfl rfl rfl) ?_
    refine scons (CStep.guard rfl rfl rfl (fun hg0 => PStep.c (p_move (y := .val _) rfl (Sees.of rfl) rfl)) rfl rfl rfl rfl rfl) ?_
    refine scons (CStep.guard rfl rfl rfl (fun hg0 => c_call rfl wDia_isf75 ⟨_, _, rfl, (Sees.gv' rfl hg0), rfl, ⟨_, _, rfl, (Sees.gv' rfl hg0), rfl, rfl⟩⟩ (has_spec s k)) rfl rfl rfl rfl rfl) ?_
    refine scons (CStep.step (PStep.c (p_or rfl (Sees.of rfl) (Sees.of rfl) (fun h => Sees.gv' rfl (beq_of_eq h)))) rfl rfl rfl rfl) ?_
    refine snil ?_
    refine f_cond rfl ?_ ?_
    · intro hc1
      try simp only [bs] at hc1
      refine f_seq ?_
      refine f_region ?_
      refine scons (CStep.step (PStep.c (p_move (y := .val _) rfl (Sees.of rfl) rfl)) rfl rfl rfl rfl) ?_
      refine scons (CStep.step (PStep.c (p_assign (y := .val _) rfl (Sees.of rfl) rfl)) rfl rfl rfl rfl) ?_
      refine snil ?_
      refine f_ret ?_
      refine ends_ret (res_eq (res1 rfl (res_tmp rfl (Sees.of rfl))) ?_)
      rw [Sp.rvis, if_pos hc1]
    · intro hc1
      try simp only [bs] at hc1
      refine f_skip ?_
      refine f_seq ?_
      have hv := hV (k - 2).toNat (by omega)
      have hs1 := Sp.rvis_inn hV f (l.getD (k - 2).toNat (0, 0, 0)).2.1 s (by omega) hs
      have hs2 := Sp.rvis_inn hV f (l.getD (k - 2).toNat (0, 0, 0)).2.2 _ (by omega) hs1
      have hl2 := Sp.inn_len hs2
      refine f_draw wDia_mix (by kernel_rfl) ?_
      refine dcons (CStep.step (PStep.c (p_loadBS rfl wDia_agg41 wDia_siz41 (Sees.of rfl) rfl rfl rfl)) rfl rfl rfl rfl) ?_
      refine dcons (CStep.step (PStep.c (p_fieldRef rfl wDia_fld41_0 wDia_siz39 rfl (Sees.of rfl) rfl)) rfl rfl rfl rfl) ?_
      refine dcons (CStep.step (PStep.c (p_loadB (y := .val _) rfl wDia_agg39 (Sees.of rfl) rfl rfl rfl rfl)) rfl rfl rfl rfl) ?_
      refine dcons (CStep.step (PStep.c (p_move (y := .val _) rfl (Sees.of rfl) rfl)) rfl rfl rfl rfl) ?_
      refine dcons (CStep.step (PStep.c (p_sub rfl (Sees.of rfl) (Sees.of rfl) (by omega))) rfl rfl rfl rfl) ?_
      refine dcons (CStep.step (PStep.c ((by first | exact p_indexN rfl wDia_isl39 wDia_siz96 (Sees.of rfl) (Sees.of rfl) (by omega) | exact p_index rfl wDia_isl39 wDia_siz96 (Sees.of rfl) (Sees.of rfl) (by omega) (by omega)))) rfl rfl rfl rfl) ?_
      refine dcons (CStep.step (PStep.c (p_fieldAddr rfl wDia_fld96_1 wDia_siz3 (by decide) (Sees.of rfl) rfl rfl)) rfl rfl rfl rfl) ?_
      refine dcons (CStep.step (PStep.c (p_load rfl wDia_agg3 (Sees.of rfl) rfl)) rfl rfl rfl rfl) ?_
      refine dcons (CStep.step (PStep.c (p_move (y := .val _) rfl (Sees.of rfl) rfl)) rfl rfl rfl rfl) ?_
      refine dcons (CStep.step (c_call rfl wDia_isf60 ⟨_, _, rfl, (Sees.of rfl), rfl, ⟨_, _, rfl, (Sees.of rfl), rfl, ⟨_, _, rfl, (Sees.of rfl), rfl, rfl⟩⟩⟩ (ih (l.getD (k - 2).toNat (0, 0, 0)).2.1 s ⟨hv.1, by omega, by omega⟩ hs)) rfl rfl rfl rfl) ?_
      refine dcons (CStep.step (PStep.c (p_assign (y := .val _) rfl (Sees.of rfl) rfl)) rfl rfl rfl rfl) ?_
      refine dnil (by kernel_rfl) ?_
      refine f_seq ?_
      refine f_draw wDia_mix (by kernel_rfl) ?_
      refine dcons (CStep.step (PStep.c (p_loadBS rfl wDia_agg41 wDia_siz41 (Sees.of rfl) rfl rfl rfl)) rfl rfl rfl rfl) ?_
      refine dcons (CStep.step (PStep.c (p_fieldRef rfl wDia_fld41_0 wDia_siz39 rfl (Sees.of rfl) rfl)) rfl rfl rfl rfl) ?_
      refine dcons (CStep.step (PStep.c (p_loadB (y := .val _) rfl wDia_agg39 (Sees.of rfl) rfl rfl rfl rfl)) rfl rfl rfl rfl) ?_
      refine dcons (CStep.step (PStep.c (p_move (y := .val _) rfl (Sees.of rfl) rfl)) rfl rfl rfl rfl) ?_
      refine dcons (CStep.step (PStep.c (p_sub rfl (Sees.of rfl) (Sees.of rfl) (by omega))) rfl rfl rfl rfl) ?_
      refine dcons (CStep.step (PStep.c ((by first | exact p_indexN rfl wDia_isl39 wDia_siz96 (Sees.of rfl) (Sees.of rfl) (by omega) | exact p_index rfl wDia_isl39 wDia_siz96 (Sees.of rfl) (Sees.of rfl) (by omega) (by omega)))) rfl rfl rfl rfl) ?_
      refine dcons (CStep.step (PStep.c (p_fieldAddr rfl wDia_fld96_2 wDia_siz3 (by decide) (Sees.of rfl) rfl rfl)) rfl rfl rfl rfl) ?_
      refine dcons (CStep.step (PStep.c (p_load rfl wDia_agg3 (Sees.of rfl) rfl)) rfl rfl rfl rfl) ?_
      refine dcons (CStep.step (PStep.c (p_move (y := .val _) rfl (Sees.of rfl) rfl)) rfl rfl rfl rfl) ?_
      refine dcons (CStep.step (c_call rfl wDia_isf60 ⟨_, _, rfl, (Sees.of rfl), rfl, ⟨_, _, rfl, (Sees.of rfl), rfl, ⟨_, _, rfl, (Sees.of rfl), rfl, rfl⟩⟩⟩ (ih (l.getD (k - 2).toNat (0, 0, 0)).2.2 (Sp.rvis l f (l.getD (k - 2).toNat (0, 0, 0)).2.1 s) ⟨hv.2.2.1, by omega, by omega⟩ hs1)) rfl rfl rfl rfl) ?_
      refine dcons (CStep.step (PStep.c (p_assign (y := .val _) rfl (Sees.of rfl) rfl)) rfl rfl rfl rfl) ?_
      refine dnil (by kernel_rfl) ?_
      refine f_seq ?_
      refine f_region ?_
      refine scons (r_buildRow (f := di) (za := 0) (xs := []) (by_ := 8) (ob := 10035) rfl rfl wDia_isl32 wDia_siz3 wDia_zer3 rfl rfl (by decide) rfl rfl rfl rfl rfl rfl) ?_
      refine scons (CStep.step (PStep.c (p_move (y := .val _) rfl (Sees.of rfl) rfl)) rfl rfl rfl rfl) ?_
      refine scons (r_appendR (ob := 10035) rfl wDia_isl32 wDia_siz3 wDia_byt3 wDia_zer3 rfl rfl (Sees.of rfl) rfl (Sees.of rfl) (by simp only [List.length_cons, List.length_nil, List.length_append]; omega) (by simp only [List.length_cons, List.length_nil, List.length_append]; omega) rfl rfl rfl rfl rfl) ?_
      refine scons (CStep.step (PStep.c (p_move (y := .val _) rfl (Sees.of rfl) rfl)) rfl rfl rfl rfl) ?_
      refine scons (CStep.step (c_buildSlice (f := di) (za := 0) (xs := [.tmp 38]) rfl rfl wDia_isl32 wDia_siz3 wDia_zer3 rfl rfl ⟨_, _, rfl, (Sees.of rfl), rfl, rfl, rfl⟩) rfl rfl rfl rfl) ?_
      refine scons (r_appendR (ob := 10035) rfl wDia_isl32 wDia_siz3 wDia_byt3 wDia_zer3 rfl rfl (Sees.of rfl) rfl (Sees.of rfl) (by simp only [List.length_cons, List.length_nil, List.length_append]; omega) (by simp only [List.length_cons, List.length_nil, List.length_append]; omega) rfl rfl rfl rfl rfl) ?_
      refine scons (CStep.step (PStep.c (p_assign (y := .row _ _) rfl (Sees.of rfl) rfl)) rfl rfl rfl rfl) ?_
      refine snil ?_
      refine f_ret ?_
      refine ends_ret (res_eq (res1 rfl (res_row rfl rfl rfl)) ?_)
      rw [Sp.rvis, if_neg (by intro h; rcases h with h | h; omega; exact hc1.2 h)]
      all_goals rfl

theorem diaCheckR_spec (n : Int) (l : List Sp.Cho) (r : Int) :
    Spec Go.Proofs.Try.prog 29 [iv n, .val (dia l r)] (fault (Sp.diaCheck n l r).1 (Sp.diaCheck n l r).2) := by
  refine spec_of' Go.Proofs.Try.func29 rfl Go.Proofs.Try.ntmps29 rfl ?_
  refine f_seq ?_
  refine f_region ?_
  refine scons (r_box (ob := 10003) rfl (Sees.of rfl) rfl rfl rfl rfl rfl rfl) ?_
  refine scons (r_alloc (ob := 10004) rfl wDia_zer28 rfl rfl rfl rfl rfl rfl) ?_
  refine snil ?_
  refine f_seq ?_
  refine f_seq ?_
  refine f_region ?_
  refine scons (CStep.step (PStep.c (p_move (y := .val _) rfl (Sees.of rfl) rfl)) rfl rfl rfl rfl) ?_
  refine scons (CStep.step (PStep.c (p_lss rfl (Sees.of rfl) (Sees.of rfl))) rfl rfl rfl rfl) ?_
  refine scons (CStep.step (PStep.c (p_move (y := .val _) rfl (Sees.of rfl) rfl)) rfl rfl rfl rfl) ?_
  refine scons (CStep.guard rfl rfl rfl (fun hg0 => PStep.c (p_move (y := .val _) rfl (Sees.of rfl) rfl)) rfl rfl rfl rfl rfl) ?_
  refine scons (CStep.guard rfl rfl rfl (fun hg0 => PStep.c (p_gtr rfl (Sees.gv' rfl hg0) (Sees.of rfl))) rfl rfl rfl rfl rfl) ?_
  refine scons (CStep.step (PStep.c (p_or rfl (Sees.of rfl) (Sees.of rfl) (fun h => Sees.gv' rfl (beq_of_eq h)))) rfl rfl rfl rfl) ?_
  refine snil ?_
  refine f_cond rfl ?_ ?_
  · intro hc1
    try simp only [bs] at hc1
    refine f_seq ?_
    refine f_region ?_
    refine scons (CStep.step (PStep.c (p_build rfl wDia_plc28 wDia_zer28 (by decide) wDia_zch28 ⟨_, _, _, rfl, rfl, rfl, (Sees.of rfl), rfl⟩ rfl)) rfl rfl rfl rfl) ?_
    refine scons (r_storeS rfl wDia_siz28 rfl rfl rfl (Sees.of rfl) rfl (Sees.of rfl) rfl rfl rfl rfl) ?_
    refine snil ?_
    refine f_ret ?_
    refine ends_ret (res_eq (res1 rfl (res_cell (by rfl) rfl rfl wDia_agg28 wDia_siz28 rfl rfl)) ?_)
    rw [Sp.diaCheck, if_pos hc1]
    all_goals rfl
  · intro hc1
    try simp only [bs] at hc1
    refine f_skip ?_
    refine f_seq ?_
    refine f_seq ?_
    refine f_region ?_
    refine scons (CStep.step (PStep.c (p_fieldRef rfl wDia_fld41_0 wDia_siz39 rfl (Sees.of rfl) rfl)) rfl rfl rfl rfl) ?_
    refine scons (CStep.step (PStep.c (p_loadB (y := .val _) rfl wDia_agg39 (Sees.of rfl) rfl rfl rfl rfl)) rfl rfl rfl rfl) ?_
    refine scons (CStep.step (PStep.c (p_len rfl wDia_isl39 (Sees.of rfl))) rfl rfl rfl rfl) ?_
    refine scons (CStep.step (PStep.c (p_gtr rfl (Sees.of rfl) (Sees.of rfl))) rfl rfl rfl rfl) ?_
    refine snil ?_
    refine f_cond rfl ?_ ?_
    · intro hc2
      try simp only [bs] at hc2
      refine f_seq ?_
      refine f_region ?_
      refine scons (CStep.step (PStep.c (p_build rfl wDia_plc28 wDia_zer28 (by decide) wDia_zch28 ⟨_, _, _, rfl, rfl, rfl, (Sees.of rfl), rfl⟩ rfl)) rfl rfl rfl rfl) ?_
      refine scons (r_storeS rfl wDia_siz28 rfl rfl rfl (Sees.of rfl) rfl (Sees.of rfl) rfl rfl rfl rfl) ?_
      refine snil ?_
      refine f_ret ?_
      refine ends_ret (res_eq (res1 rfl (res_cell (by rfl) rfl rfl wDia_agg28 wDia_siz28 rfl rfl)) ?_)
      rw [Sp.diaCheck, if_neg (by omega), if_pos (by omega)]
      all_goals rfl
    · intro hc2
      try simp only [bs] at hc2
      refine f_skip ?_
      refine f_seq ?_
      refine f_seq ?_
      refine f_region ?_
      refine scons (CStep.step (PStep.c (p_assign (y := .val _) rfl (Sees.of rfl) rfl)) rfl rfl rfl rfl) ?_
      refine snil ?_
      refine f_block ?_
      refine f_loop (α := Nat) (fun i => i ≤ l.length ∧ Sp.diaFrom n l 0 = Sp.diaFrom n l i ∧ ∀ j, j < i → Sp.choWrong n l j = 0) (fun i => [(5, iv i), (0, iv n), (3, .ref 10003 0 0), (4, .ref 10004 0 0), (10003, .box 0 (.ccons (.val (chos l)) (.ccons (iv r) .cnil))), (10004, .box 0 (.ccons (iv 0) (.ccons (iv 0) .cnil)))]) (fun i => l.length - i) 0 ?_ ?_ ?_
      · exact ⟨Nat.zero_le _, rfl, fun j hj => absurd hj (Nat.not_lt_zero _)⟩
      · exact le_ofL ⟨rfl, rfl, rfl, rfl, rfl, rfl, trivial⟩ rfl
      · rintro i ⟨hi, hp, hall⟩
        refine f_seq ?_
        refine f_seq ?_
        refine f_region ?_
        refine scons (CStep.step (PStep.c (p_move (y := .val _) rfl (Sees.of rfl) rfl)) rfl rfl rfl rfl) ?_
        refine scons (CStep.step (PStep.c (p_fieldRef rfl wDia_fld41_0 wDia_siz39 rfl (Sees.of rfl) rfl)) rfl rfl rfl rfl) ?_
        refine scons (CStep.step (PStep.c (p_loadB (y := .val _) rfl wDia_agg39 (Sees.of rfl) rfl rfl rfl rfl)) rfl rfl rfl rfl) ?_
        refine scons (CStep.step (PStep.c (p_len rfl wDia_isl39 (Sees.of rfl))) rfl rfl rfl rfl) ?_
        refine scons (CStep.step (PStep.c (p_lss rfl (Sees.of rfl) (Sees.of rfl))) rfl rfl rfl rfl) ?_
        refine snil ?_
        refine f_cond rfl ?_ ?_
        · intro hc3
          try simp only [bs] at hc3
          refine f_skip ?_
          refine f_seq ?_
          refine f_block ?_
          refine f_seq ?_
          refine f_region ?_
          refine scons (CStep.step (PStep.c (p_fieldRef rfl wDia_fld41_0 wDia_siz39 rfl (Sees.of rfl) rfl)) rfl rfl rfl rfl) ?_
          refine scons (CStep.step (PStep.c (p_loadB (y := .val _) rfl wDia_agg39 (Sees.of rfl) rfl rfl rfl rfl)) rfl rfl rfl rfl) ?_
          refine scons (CStep.step (PStep.c (p_move (y := .val _) rfl (Sees.of rfl) rfl)) rfl rfl rfl rfl) ?_
          refine scons (CStep.step (PStep.c ((by first | exact p_indexN rfl wDia_isl39 wDia_siz96 (Sees.of rfl) (Sees.of rfl) (by omega) | exact p_index rfl wDia_isl39 wDia_siz96 (Sees.of rfl) (Sees.of rfl) (by omega) (by omega)))) rfl rfl rfl rfl) ?_
          refine scons (CStep.step (PStep.c (p_loadS rfl wDia_agg96 wDia_siz96 (Sees.of rfl) ⟨rfl, fun h => R_len rfl h⟩)) rfl rfl rfl rfl) ?_
          refine scons (r_alloc (ob := 10006) rfl wDia_zer96 rfl rfl rfl rfl rfl rfl) ?_
          refine scons (r_storeS rfl wDia_siz96 rfl rfl rfl (Sees.of rfl) rfl (Sees.of rfl) rfl rfl rfl rfl) ?_
          refine snil ?_
          refine f_seq ?_
          refine f_seq ?_
          refine f_region ?_
          refine scons (CStep.step (PStep.c (p_fieldRef rfl wDia_fld96_0 wDia_siz3 rfl (Sees.of rfl) rfl)) rfl rfl rfl rfl) ?_
          refine scons (CStep.step (PStep.c (p_loadB (y := .val _) rfl wDia_agg3 (Sees.of rfl) rfl rfl rfl rfl)) rfl rfl rfl rfl) ?_
          refine scons (CStep.step (PStep.c (p_lss rfl (Sees.of rfl) (Sees.of rfl))) rfl rfl rfl rfl) ?_
          refine scons (CStep.step (PStep.c (p_move (y := .val _) rfl (Sees.of rfl) rfl)) rfl rfl rfl rfl) ?_
          refine scons (CStep.guard rfl rfl rfl (fun hg0 => PStep.c (p_fieldRef rfl wDia_fld96_0 wDia_siz3 rfl (Sees.of rfl) rfl)) rfl rfl rfl rfl rfl) ?_
          refine scons (CStep.guard rfl rfl rfl (fun hg0 => PStep.c (p_loadB (y := .val _) rfl wDia_agg3 (Sees.gv' rfl hg0) rfl rfl rfl rfl)) rfl rfl rfl rfl rfl) ?_
          refine scons (CStep.guard rfl rfl rfl (fun hg0 => PStep.c (p_move (y := .val _) rfl (Sees.of rfl) rfl)) rfl rfl rfl rfl rfl) ?_
          refine scons (CStep.guard rfl rfl rfl (fun hg0 => PStep.c (p_gtr rfl (Sees.gv' rfl hg0) (Sees.gv' rfl hg0))) rfl rfl rfl rfl rfl) ?_
          refine scons (CStep.step (PStep.c (p_or rfl (Sees.of rfl) (Sees.of rfl) (fun h => Sees.gv' rfl (beq_of_eq h)))) rfl rfl rfl rfl) ?_
          refine scons (CStep.step (PStep.c (p_move (y := .val _) rfl (Sees.of rfl) rfl)) rfl rfl rfl rfl) ?_
          refine scons (CStep.guard rfl rfl rfl (fun hg0 => PStep.c (p_fieldRef rfl wDia_fld96_1 wDia_siz3 rfl (Sees.of rfl) rfl)) rfl rfl rfl rfl rfl) ?_
          refine scons (CStep.guard rfl rfl rfl (fun hg0 => PStep.c (p_loadB (y := .val _) rfl wDia_agg3 (Sees.gv' rfl hg0) rfl rfl rfl rfl)) rfl rfl rfl rfl rfl) ?_
          refine scons (CStep.guard rfl rfl rfl (fun hg0 => PStep.c (p_lss rfl (Sees.gv' rfl hg0) (Sees.of rfl))) rfl rfl rfl rfl rfl) ?_
          refine scons (CStep.step (PStep.c (p_or rfl (Sees.of rfl) (Sees.of rfl) (fun h => Sees.gv' rfl (beq_of_eq h)))) rfl rfl rfl rfl) ?_
          refine scons (CStep.step (PStep.c (p_move (y := .val _) rfl (Sees.of rfl) rfl)) rfl rfl rfl rfl) ?_
          refine scons (CStep.guard rfl rfl rfl (fun hg0 => PStep.c (p_fieldRef rfl wDia_fld96_2 wDia_siz3 rfl (Sees.of rfl) rfl)) rfl rfl rfl rfl rfl) ?_
          refine scons (CStep.guard rfl rfl rfl (fun hg0 => PStep.c (p_loadB (y := .val _) rfl wDia_agg3 (Sees.gv' rfl hg0) rfl rfl rfl rfl)) rfl rfl rfl rfl rfl) ?_
          refine scons (CStep.guard rfl rfl rfl (fun hg0 => PStep.c (p_lss rfl (Sees.gv' rfl hg0) (Sees.of rfl))) rfl rfl rfl rfl rfl) ?_
          refine scons (CStep.step (PStep.c (p_or rfl (Sees.of rfl) (Sees.of rfl) (fun h => Sees.gv' rfl (beq_of_eq h)))) rfl rfl rfl rfl) ?_
          refine scons (CStep.step (PStep.c (p_move (y := .val _) rfl (Sees.of rfl) rfl)) rfl rfl rfl rfl) ?_
          refine scons (CStep.guard rfl rfl rfl (fun hg0 => PStep.c (p_fieldRef rfl wDia_fld96_1 wDia_siz3 rfl (Sees.of rfl) rfl)) rfl rfl rfl rfl rfl) ?_
          refine scons (CStep.guard rfl rfl rfl (fun hg0 => PStep.c (p_loadB (y := .val _) rfl wDia_agg3 (Sees.gv' rfl hg0) rfl rfl rfl rfl)) rfl rfl rfl rfl rfl) ?_
          refine scons (CStep.guard rfl rfl rfl (fun hg0 => PStep.c (p_move (y := .val _) rfl (Sees.of rfl) rfl)) rfl rfl rfl rfl rfl) ?_
          refine scons (CStep.guard rfl rfl rfl (fun hg0 => by have hp0 := hg0; (try simp only [bs] at hp0); exact PStep.c (p_add rfl (Sees.gv' rfl hg0) (Sees.of rfl) (by omega))) rfl rfl rfl rfl rfl) ?_
          refine scons (CStep.guard rfl rfl rfl (fun hg0 => PStep.c (p_gtr rfl (Sees.gv' rfl hg0) (Sees.gv' rfl hg0))) rfl rfl rfl rfl rfl) ?_
          refine scons (CStep.step (PStep.c (p_or rfl (Sees.of rfl) (Sees.of rfl) (fun h => Sees.gv' rfl (beq_of_eq h)))) rfl rfl rfl rfl) ?_
          refine scons (CStep.step (PStep.c (p_move (y := .val _) rfl (Sees.of rfl) rfl)) rfl rfl rfl rfl) ?_
          refine scons (CStep.guard rfl rfl rfl (fun hg0 => PStep.c (p_fieldRef rfl wDia_fld96_2 wDia_siz3 rfl (Sees.of rfl) rfl)) rfl rfl rfl rfl rfl) ?_
          refine scons (CStep.guard rfl rfl rfl (fun hg0 => PStep.c (p_loadB (y := .val _) rfl wDia_agg3 (Sees.gv' rfl hg0) rfl rfl rfl rfl)) rfl rfl rfl rfl rfl) ?_
          refine scons (CStep.guard rfl rfl rfl (fun hg0 => PStep.c (p_move (y := .val _) rfl (Sees.of rfl) rfl)) rfl rfl rfl rfl rfl) ?_
          refine scons (CStep.guard rfl rfl rfl (fun hg0 => by have hp0 := hg0; (try simp only [bs] at hp0); exact PStep.c (p_add rfl (Sees.gv' rfl hg0) (Sees.of rfl) (by omega))) rfl rfl rfl rfl rfl) ?_
          refine scons (CStep.guard rfl rfl rfl (fun hg0 => PStep.c (p_gtr rfl (Sees.gv' rfl hg0) (Sees.gv' rfl hg0))) rfl rfl rfl rfl rfl) ?_
          refine scons (CStep.step (PStep.c (p_or rfl (Sees.of rfl) (Sees.of rfl) (fun h => Sees.gv' rfl (beq_of_eq h)))) rfl rfl rfl rfl) ?_
          refine snil ?_
          refine f_cond rfl ?_ ?_
          · intro hc4
            try simp only [bs] at hc4
            refine f_seq ?_
            refine f_region ?_
            refine scons (CStep.step (PStep.c (p_move (y := .val _) rfl (Sees.of rfl) rfl)) rfl rfl rfl rfl) ?_
            refine scons (CStep.step (PStep.c (p_build rfl wDia_plc28 wDia_zer28 (by decide) wDia_zch28 ⟨_, _, _, rfl, rfl, rfl, (Sees.of rfl), ⟨_, _, _, rfl, rfl, rfl, (Sees.of rfl), rfl⟩⟩ rfl)) rfl rfl rfl rfl) ?_
            refine scons (r_storeS rfl wDia_siz28 rfl rfl rfl (Sees.of rfl) rfl (Sees.of rfl) rfl rfl rfl rfl) ?_
            refine snil ?_
            refine f_ret ?_
            refine ends_ret (res_eq (res1 rfl (res_cell (by rfl) rfl rfl wDia_agg28 wDia_siz28 rfl rfl)) ?_)
            rw [Sp.dia_at hc1 (by omega) (by omega) hp (c := 3) (by rw [Sp.choWrong, if_pos (by omega)]) (by decide)]
            all_goals rfl
          · intro hc4
            try simp only [bs] at hc4
            refine f_skip ?_
            refine f_seq ?_
            refine f_seq ?_
            refine f_draw wDia_mix (by kernel_rfl) ?_
            refine dcons (CStep.step (PStep.c (p_fieldRef rfl wDia_fld96_1 wDia_siz3 rfl (Sees.of rfl) rfl)) rfl rfl rfl rfl) ?_
            refine dcons (CStep.step (PStep.c (p_loadB (y := .val _) rfl wDia_agg3 (Sees.of rfl) rfl rfl rfl rfl)) rfl rfl rfl rfl) ?_
            refine dcons (CStep.step (PStep.c (p_fieldRef rfl wDia_fld96_2 wDia_siz3 rfl (Sees.of rfl) rfl)) rfl rfl rfl rfl) ?_
            refine dcons (CStep.step (PStep.c (p_loadB (y := .val _) rfl wDia_agg3 (Sees.of rfl) rfl rfl rfl rfl)) rfl rfl rfl rfl) ?_
            refine dcons (CStep.step (PStep.c (p_eql rfl (Sees.of rfl) (Sees.of rfl))) rfl rfl rfl rfl) ?_
            refine dcons (CStep.step (PStep.c (p_move (y := .val _) rfl (Sees.of rfl) rfl)) rfl rfl rfl rfl) ?_
            refine dcons (CStep.guard rfl rfl rfl (fun hg0 => PStep.c (p_move (y := .val _) rfl (Sees.of rfl) rfl)) rfl rfl rfl rfl rfl) ?_
            refine dcons (CStep.guard rfl rfl rfl (fun hg0 => PStep.c (p_loadBS rfl wDia_agg41 wDia_siz41 (Sees.of rfl) rfl rfl rfl)) rfl rfl rfl rfl rfl) ?_
            refine dcons (CStep.guard rfl rfl rfl (fun hg0 => PStep.c (p_fieldRef rfl wDia_fld96_1 wDia_siz3 rfl (Sees.of rfl) rfl)) rfl rfl rfl rfl rfl) ?_
            refine dcons (CStep.guard rfl rfl rfl (fun hg0 => PStep.c (p_loadB (y := .val _) rfl wDia_agg3 (Sees.gv' rfl hg0) rfl rfl rfl rfl)) rfl rfl rfl rfl rfl) ?_
            refine dcons (CStep.guard rfl rfl rfl (fun hg0 => by have hp0 := hg0; (try simp only [bs] at hp0); exact c_call rfl wDia_isf59 ⟨_, _, rfl, (Sees.gv' rfl hg0), rfl, ⟨_, _, rfl, (Sees.gv' rfl hg0), rfl, ⟨_, _, rfl, (Sees.gv' rfl hg0), rfl, rfl⟩⟩⟩ (varOf_spec n l r (l.getD i (0, 0, 0)).2.1 (by omega) (by omega) (by omega))) rfl rfl rfl rfl rfl) ?_
            refine dcons (CStep.guard rfl rfl rfl (fun hg0 => PStep.c (p_fieldRef rfl wDia_fld96_0 wDia_siz3 rfl (Sees.of rfl) rfl)) rfl rfl rfl rfl rfl) ?_
            refine dcons (CStep.guard rfl rfl rfl (fun hg0 => PStep.c (p_loadB (y := .val _) rfl wDia_agg3 (Sees.gv' rfl hg0) rfl rfl rfl rfl)) rfl rfl rfl rfl rfl) ?_
            refine dcons (CStep.guard rfl rfl rfl (fun hg0 => PStep.c (p_leq rfl (Sees.gv' rfl hg0) (Sees.gv' rfl hg0))) rfl rfl rfl rfl rfl) ?_
            refine dcons (CStep.step (PStep.c (p_or rfl (Sees.of rfl) (Sees.of rfl) (fun h => Sees.gv' rfl (beq_of_eq h)))) rfl rfl rfl rfl) ?_
            refine dcons (CStep.step (PStep.c (p_move (y := .val _) rfl (Sees.of rfl) rfl)) rfl rfl rfl rfl) ?_
            refine dcons (CStep.guard rfl rfl rfl (fun hg0 => PStep.c (p_move (y := .val _) rfl (Sees.of rfl) rfl)) rfl rfl rfl rfl rfl) ?_
            refine dcons (CStep.guard rfl rfl rfl (fun hg0 => PStep.c (p_loadBS rfl wDia_agg41 wDia_siz41 (Sees.of rfl) rfl rfl rfl)) rfl rfl rfl rfl rfl) ?_
            refine dcons (CStep.guard rfl rfl rfl (fun hg0 => PStep.c (p_fieldRef rfl wDia_fld96_2 wDia_siz3 rfl (Sees.of rfl) rfl)) rfl rfl rfl rfl rfl) ?_
            refine dcons (CStep.guard rfl rfl rfl (fun hg0 => PStep.c (p_loadB (y := .val _) rfl wDia_agg3 (Sees.gv' rfl hg0) rfl rfl rfl rfl)) rfl rfl rfl rfl rfl) ?_
            refine dcons (CStep.guard rfl rfl rfl (fun hg0 => by have hp0 := hg0; (try simp only [bs] at hp0); exact c_call rfl wDia_isf59 ⟨_, _, rfl, (Sees.gv' rfl hg0), rfl, ⟨_, _, rfl, (Sees.gv' rfl hg0), rfl, ⟨_, _, rfl, (Sees.gv' rfl hg0), rfl, rfl⟩⟩⟩ (varOf_spec n l r (l.getD i (0, 0, 0)).2.2 (by omega) (by omega) (by omega))) rfl rfl rfl rfl rfl) ?_
            refine dcons (CStep.guard rfl rfl rfl (fun hg0 => PStep.c (p_fieldRef rfl wDia_fld96_0 wDia_siz3 rfl (Sees.of rfl) rfl)) rfl rfl rfl rfl rfl) ?_
            refine dcons (CStep.guard rfl rfl rfl (fun hg0 => PStep.c (p_loadB (y := .val _) rfl wDia_agg3 (Sees.gv' rfl hg0) rfl rfl rfl rfl)) rfl rfl rfl rfl rfl) ?_
            refine dcons (CStep.guard rfl rfl rfl (fun hg0 => PStep.c (p_leq rfl (Sees.gv' rfl hg0) (Sees.gv' rfl hg0))) rfl rfl rfl rfl rfl) ?_
            refine dcons (CStep.step (PStep.c (p_or rfl (Sees.of rfl) (Sees.of rfl) (fun h => Sees.gv' rfl (beq_of_eq h)))) rfl rfl rfl rfl) ?_
            refine dnil (by kernel_rfl) ?_
            refine f_cond rfl ?_ ?_
            · intro hc5
              try simp only [bs] at hc5
              refine f_seq ?_
              refine f_region ?_
              refine scons (CStep.step (PStep.c (p_move (y := .val _) rfl (Sees.of rfl) rfl)) rfl rfl rfl rfl) ?_
              refine scons (CStep.step (PStep.c (p_build rfl wDia_plc28 wDia_zer28 (by decide) wDia_zch28 ⟨_, _, _, rfl, rfl, rfl, (Sees.of rfl), ⟨_, _, _, rfl, rfl, rfl, (Sees.of rfl), rfl⟩⟩ rfl)) rfl rfl rfl rfl) ?_
              refine scons (r_storeS rfl wDia_siz28 rfl rfl rfl (Sees.of rfl) rfl (Sees.of rfl) rfl rfl rfl rfl) ?_
              refine snil ?_
              refine f_ret ?_
              refine ends_ret (res_eq (res1 rfl (res_cell (by rfl) rfl rfl wDia_agg28 wDia_siz28 rfl rfl)) ?_)
              rw [Sp.dia_at hc1 (by omega) (by omega) hp (c := 5) (by rw [Sp.choWrong, if_neg (by omega), if_pos (by rw [← or_assoc]; exact hc5)]) (by decide)]
              all_goals rfl
            · intro hc5
              try simp only [bs] at hc5
              refine f_skip ?_
              refine f_seq ?_
              refine f_region ?_
              refine scons (CStep.step (PStep.c (p_assign (y := .val _) rfl (Sees.of rfl) rfl)) rfl rfl rfl rfl) ?_
              refine snil ?_
              refine f_block ?_
              refine f_loop (α := Nat) (fun j => j ≤ i ∧ ∀ y ∈ l.take j, y ≠ (l.getD i (0, 0, 0))) (fun j => [(7, iv j), (6, .ref 10006 0 0), (10006, .box 0 (.ccons (iv (l.getD i (0, 0, 0)).1) (.ccons (iv (l.getD i (0, 0, 0)).2.1) (.ccons (iv (l.getD i (0, 0, 0)).2.2) .cnil)))), (0, iv n), (3, .ref 10003 0 0), (4, .ref 10004 0 0), (5, iv i), (10003, .box 0 (.ccons (.val (chos l)) (.ccons (iv r) .cnil))), (10004, .box 0 (.ccons (iv 0) (.ccons (iv 0) .cnil)))]) (fun j => i - j) 0 ?_ ?_ ?_
              · exact ⟨Nat.zero_le _, by simp⟩
              · exact le_ofL ⟨rfl, rfl, rfl, rfl, rfl, rfl, rfl, rfl, rfl, trivial⟩ rfl
              · rintro j ⟨hj, hne⟩
                refine f_seq ?_
                refine f_seq ?_
                refine f_region ?_
                refine scons (CStep.step (PStep.c (p_move (y := .val _) rfl (Sees.of rfl) rfl)) rfl rfl rfl rfl) ?_
                refine scons (CStep.step (PStep.c (p_move (y := .val _) rfl (Sees.of rfl) rfl)) rfl rfl rfl rfl) ?_
                refine scons (CStep.step (PStep.c (p_lss rfl (Sees.of rfl) (Sees.of rfl))) rfl rfl rfl rfl) ?_
                refine snil ?_
                refine f_cond rfl ?_ ?_
                · intro hc6
                  try simp only [bs] at hc6
                  refine f_skip ?_
                  refine f_seq ?_
                  refine f_block ?_
                  refine f_seq ?_
                  refine f_draw wDia_mix (by kernel_rfl) ?_
                  refine dcons (CStep.step (PStep.c (p_fieldRef rfl wDia_fld41_0 wDia_siz39 rfl (Sees.of rfl) rfl)) rfl rfl rfl rfl) ?_
                  refine dcons (CStep.step (PStep.c (p_loadB (y := .val _) rfl wDia_agg39 (Sees.of rfl) rfl rfl rfl rfl)) rfl rfl rfl rfl) ?_
                  refine dcons (CStep.step (PStep.c (p_move (y := .val _) rfl (Sees.of rfl) rfl)) rfl rfl rfl rfl) ?_
                  refine dcons (CStep.step (PStep.c ((by first | exact p_indexN rfl wDia_isl39 wDia_siz96 (Sees.of rfl) (Sees.of rfl) (by omega) | exact p_index rfl wDia_isl39 wDia_siz96 (Sees.of rfl) (Sees.of rfl) (by omega) (by omega)))) rfl rfl rfl rfl) ?_
                  refine dcons (CStep.step (PStep.c (p_loadS rfl wDia_agg96 wDia_siz96 (Sees.of rfl) ⟨rfl, fun h => R_len rfl h⟩)) rfl rfl rfl rfl) ?_
                  refine dcons (CStep.step (PStep.c (p_loadBS rfl wDia_agg96 wDia_siz96 (Sees.of rfl) rfl rfl rfl)) rfl rfl rfl rfl) ?_
                  refine dcons (CStep.step (PStep.c (p_eqlS3 rfl wDia_eq396 (Sees.of rfl) (Sees.of rfl))) rfl rfl rfl rfl) ?_
                  refine dnil (by kernel_rfl) ?_
                  refine f_cond rfl ?_ ?_
                  · intro hc7
                    try simp only [bs] at hc7
                    refine f_seq ?_
                    refine f_region ?_
                    refine scons (CStep.step (PStep.c (p_move (y := .val _) rfl (Sees.of rfl) rfl)) rfl rfl rfl rfl) ?_
                    refine scons (CStep.step (PStep.c (p_build rfl wDia_plc28 wDia_zer28 (by decide) wDia_zch28 ⟨_, _, _, rfl, rfl, rfl, (Sees.of rfl), ⟨_, _, _, rfl, rfl, rfl, (Sees.of rfl), rfl⟩⟩ rfl)) rfl rfl rfl rfl) ?_
                    refine scons (r_storeS rfl wDia_siz28 rfl rfl rfl (Sees.of rfl) rfl (Sees.of rfl) rfl rfl rfl rfl) ?_
                    refine snil ?_
                    refine f_ret ?_
                    have hm : (l.getD i (0, 0, 0)) ∈ l.take i := by
                      have e : l.getD j (0, 0, 0) = (l.getD i (0, 0, 0)) := Prod.ext hc7.1 (Prod.ext hc7.2.1 hc7.2.2)
                      rw [← e, ← Sp.getD_take l i j _ (by omega)]
                      exact Sp.getD_mem _ _ _ (by rw [List.length_take]; omega)
                    refine ends_ret (res_eq (res1 rfl (res_cell (by rfl) rfl rfl wDia_agg28 wDia_siz28 rfl rfl)) ?_)
                    rw [Sp.dia_at hc1 (by omega) (by omega) hp (c := 7) (by rw [Sp.choWrong, if_neg (by omega), if_neg (by omega), if_pos hm]) (by decide)]
                    all_goals rfl
                  · intro hc7
                    try simp only [bs] at hc7
                    refine f_skip ?_
                    refine f_nil ?_
                    show AWs _ _ _ _ _
                    refine f_region ?_
                    refine scons (CStep.step (PStep.c (p_move (y := .val _) rfl (Sees.of rfl) rfl)) rfl rfl rfl rfl) ?_
                    refine scons (CStep.step (PStep.c (p_add rfl (Sees.of rfl) (Sees.of rfl) (by omega))) rfl rfl rfl rfl) ?_
                    refine scons (CStep.step (PStep.c (p_assign (y := .val _) rfl (Sees.of rfl) rfl)) rfl rfl rfl rfl) ?_
                    refine snil ?_
                    refine f_back ⟨j + 1, ?_, ?_, le_ofL ⟨rfl, rfl, rfl, rfl, rfl, rfl, rfl, rfl, rfl, trivial⟩ rfl⟩
                    · exact ⟨by omega, Sp.step_all (z := (0, 0, 0)) (by omega) hne (fun e => by rw [e] at hc7; simp at hc7)⟩
                    · omega
                · intro hc6
                  try simp only [bs] at hc6
                  refine f_exit ?_
                  show AWs _ _ _ _ _
                  refine f_nil ?_
                  show AWs _ _ _ _ _
                  refine f_region ?_
                  refine scons (CStep.step (PStep.c (p_move (y := .val _) rfl (Sees.of rfl) rfl)) rfl rfl rfl rfl) ?_
                  refine scons (CStep.step (PStep.c (p_add rfl (Sees.of rfl) (Sees.of rfl) (by omega))) rfl rfl rfl rfl) ?_
                  refine scons (CStep.step (PStep.c (p_assign (y := .val _) rfl (Sees.of rfl) rfl)) rfl rfl rfl rfl) ?_
                  refine snil ?_
                  obtain rfl : j = i := by omega
                  have hw : Sp.choWrong n l j = 0 := by rw [Sp.choWrong, if_neg (by omega), if_neg (by omega), if_neg (fun h => hne _ h rfl)]
                  refine f_back ⟨j + 1, ?_, ?_, le_ofL ⟨rfl, rfl, rfl, rfl, rfl, rfl, trivial⟩ rfl⟩
                  · exact ⟨by omega, Sp.dia_next (by omega) hp hw, Sp.all_next hall hw⟩
                  · omega
        · intro hc3
          try simp only [bs] at hc3
          refine f_exit ?_
          show AWs _ _ _ _ _
          refine f_seq ?_
          refine f_seq ?_
          refine f_region ?_
          refine scons (CStep.step (PStep.c (p_fieldRef rfl wDia_fld41_1 wDia_siz3 rfl (Sees.of rfl) rfl)) rfl rfl rfl rfl) ?_
          refine scons (CStep.step (PStep.c (p_loadB (y := .val _) rfl wDia_agg3 (Sees.of rfl) rfl rfl rfl rfl)) rfl rfl rfl rfl) ?_
          refine scons (CStep.step (PStep.c (p_lss rfl (Sees.of rfl) (Sees.of rfl))) rfl rfl rfl rfl) ?_
          refine scons (CStep.step (PStep.c (p_move (y := .val _) rfl (Sees.of rfl) rfl)) rfl rfl rfl rfl) ?_
          refine scons (CStep.guard rfl rfl rfl (fun hg0 => PStep.c (p_fieldRef rfl wDia_fld41_1 wDia_siz3 rfl (Sees.of rfl) rfl)) rfl rfl rfl rfl rfl) ?_
          refine scons (CStep.guard rfl rfl rfl (fun hg0 => PStep.c (p_loadB (y := .val _) rfl wDia_agg3 (Sees.gv' rfl hg0) rfl rfl rfl rfl)) rfl rfl rfl rfl rfl) ?_
          refine scons (CStep.guard rfl rfl rfl (fun hg0 => PStep.c (p_fieldRef rfl wDia_fld41_0 wDia_siz39 rfl (Sees.of rfl) rfl)) rfl rfl rfl rfl rfl) ?_
          refine scons (CStep.guard rfl rfl rfl (fun hg0 => PStep.c (p_loadB (y := .val _) rfl wDia_agg39 (Sees.gv' rfl hg0) rfl rfl rfl rfl)) rfl rfl rfl rfl rfl) ?_
          refine scons (CStep.guard rfl rfl rfl (fun hg0 => PStep.c (p_len rfl wDia_isl39 (Sees.gv' rfl hg0))) rfl rfl rfl rfl rfl) ?_
          refine scons (CStep.guard rfl rfl rfl (fun hg0 => by have hp0 := hg0; (try simp only [bs] at hp0); exact PStep.c (p_add rfl (Sees.gv' rfl hg0) (Sees.of rfl) (by omega))) rfl rfl rfl rfl rfl) ?_
          refine scons (CStep.guard rfl rfl rfl (fun hg0 => PStep.c (p_gtr rfl (Sees.gv' rfl hg0) (Sees.gv' rfl hg0))) rfl rfl rfl rfl rfl) ?_
          refine scons (CStep.step (PStep.c (p_or rfl (Sees.of rfl) (Sees.of rfl) (fun h => Sees.gv' rfl (beq_of_eq h)))) rfl rfl rfl rfl) ?_
          refine snil ?_
          refine f_cond rfl ?_ ?_
          · intro hc8
            try simp only [bs] at hc8
            refine f_seq ?_
            refine f_region ?_
            refine scons (CStep.step (PStep.c (p_build rfl wDia_plc28 wDia_zer28 (by decide) wDia_zch28 ⟨_, _, _, rfl, rfl, rfl, (Sees.of rfl), ⟨_, _, _, rfl, rfl, rfl, (Sees.of rfl), rfl⟩⟩ rfl)) rfl rfl rfl rfl) ?_
            refine scons (r_storeS rfl wDia_siz28 rfl rfl rfl (Sees.of rfl) rfl (Sees.of rfl) rfl rfl rfl rfl) ?_
            refine snil ?_
            refine f_ret ?_
            refine ends_ret (res_eq (res1 rfl (res_cell (by rfl) rfl rfl wDia_agg28 wDia_siz28 rfl rfl)) ?_)
            rw [Sp.dia_end hc1 (by omega) (by omega) hp, if_pos (by omega)]
            all_goals rfl
          · intro hc8
            try simp only [bs] at hc8
            refine f_skip ?_
            refine f_seq ?_
            refine f_region ?_
            refine scons (CStep.step (PStep.c (p_loadBS rfl wDia_agg41 wDia_siz41 (Sees.of rfl) rfl rfl rfl)) rfl rfl rfl rfl) ?_
            refine scons (CStep.step (PStep.c (p_fieldRef rfl wDia_fld41_1 wDia_siz3 rfl (Sees.of rfl) rfl)) rfl rfl rfl rfl) ?_
            refine scons (CStep.step (PStep.c (p_loadB (y := .val _) rfl wDia_agg3 (Sees.of rfl) rfl rfl rfl rfl)) rfl rfl rfl rfl) ?_
            refine scons (CStep.step (c_call rfl wDia_isf60 ⟨_, _, rfl, (Sees.of rfl), rfl, ⟨_, _, rfl, (Sees.of rfl), rfl, ⟨_, _, rfl, (Sees.emp rfl _ _ _), rfl, rfl⟩⟩⟩ (rvisit_spec l r (Sp.valid_of (n := n) (fun j hj => hall j (by omega))) (by omega) (r.toNat + 1) r [] (by omega) ⟨List.nodup_nil, by simp⟩)) rfl rfl rfl rfl) ?_
            refine scons (CStep.step (PStep.c (p_assign (y := .val _) rfl (Sees.of rfl) rfl)) rfl rfl rfl rfl) ?_
            refine snil ?_
            refine f_seq ?_
            refine f_seq ?_
            refine f_region ?_
            refine scons (CStep.step (PStep.c (p_assign (y := .val _) rfl (Sees.of rfl) rfl)) rfl rfl rfl rfl) ?_
            refine snil ?_
            refine f_block ?_
            refine f_loop (α := Nat) (fun q => q ≤ l.length ∧ ∀ j, j < q → j < (Sp.rvis l (r.toNat + 1) r []).length ∧ (Sp.rvis l (r.toNat + 1) r []).getD j 0 = (j : Int) + 2) (fun q => [(9, iv q), (8, .val (ints (Sp.rvis l (r.toNat + 1) r []))), (3, .ref 10003 0 0), (4, .ref 10004 0 0), (10003, .box 0 (.ccons (.val (chos l)) (.ccons (iv r) .cnil))), (10004, .box 0 (.ccons (iv 0) (.ccons (iv 0) .cnil)))]) (fun q => l.length - q) 0 ?_ ?_ ?_
            · exact ⟨Nat.zero_le _, fun j hj => absurd hj (Nat.not_lt_zero _)⟩
            · exact le_ofL ⟨rfl, rfl, rfl, rfl, rfl, rfl, trivial⟩ rfl
            · rintro q ⟨hq, hok⟩
              refine f_seq ?_
              refine f_seq ?_
              refine f_region ?_
              refine scons (CStep.step (PStep.c (p_move (y := .val _) rfl (Sees.of rfl) rfl)) rfl rfl rfl rfl) ?_
              refine scons (CStep.step (PStep.c (p_fieldRef rfl wDia_fld41_0 wDia_siz39 rfl (Sees.of rfl) rfl)) rfl rfl rfl rfl) ?_
              refine scons (CStep.step (PStep.c (p_loadB (y := .val _) rfl wDia_agg39 (Sees.of rfl) rfl rfl rfl rfl)) rfl rfl rfl rfl) ?_
              refine scons (CStep.step (PStep.c (p_len rfl wDia_isl39 (Sees.of rfl))) rfl rfl rfl rfl) ?_
              refine scons (CStep.step (PStep.c (p_lss rfl (Sees.of rfl) (Sees.of rfl))) rfl rfl rfl rfl) ?_
              refine snil ?_
              refine f_cond rfl ?_ ?_
              · intro hc9
                try simp only [bs] at hc9
                refine f_skip ?_
                refine f_seq ?_
                refine f_block ?_
                refine f_seq ?_
                refine f_region ?_
                refine scons (CStep.step (PStep.c (p_move (y := .val _) rfl (Sees.of rfl) rfl)) rfl rfl rfl rfl) ?_
                refine scons (CStep.step (PStep.c (p_move (y := .val _) rfl (Sees.of rfl) rfl)) rfl rfl rfl rfl) ?_
                refine scons (CStep.step (PStep.c (p_len rfl wDia_isl32 (Sees.of rfl))) rfl rfl rfl rfl) ?_
                refine scons (CStep.step (PStep.c (p_geq rfl (Sees.of rfl) (Sees.of rfl))) rfl rfl rfl rfl) ?_
                refine scons (CStep.step (PStep.c (p_move (y := .val _) rfl (Sees.of rfl) rfl)) rfl rfl rfl rfl) ?_
                refine scons (CStep.guard rfl rfl rfl (fun hg0 => PStep.c (p_move (y := .val _) rfl (Sees.of rfl) rfl)) rfl rfl rfl rfl rfl) ?_
                refine scons (CStep.guard rfl rfl rfl (fun hg0 => PStep.c (p_move (y := .val _) rfl (Sees.of rfl) rfl)) rfl rfl rfl rfl rfl) ?_
                refine scons (CStep.guard rfl rfl rfl (fun hg0 => by have hp0 := hg0; (try simp only [bs] at hp0); exact PStep.c ((by first | exact p_indexN rfl wDia_isl32 wDia_siz3 (Sees.gv' rfl hg0) (Sees.gv' rfl hg0) (by omega) | exact p_index rfl wDia_isl32 wDia_siz3 (Sees.gv' rfl hg0) (Sees.gv' rfl hg0) (by omega) (by omega)))) rfl rfl rfl rfl rfl) ?_
                refine scons (CStep.guard rfl rfl rfl (fun hg0 => PStep.c (p_load rfl wDia_agg3 (Sees.gv' rfl hg0) rfl)) rfl rfl rfl rfl rfl) ?_
                refine scons (CStep.guard rfl rfl rfl (fun hg0 => PStep.c (p_move (y := .val _) rfl (Sees.of rfl) rfl)) rfl rfl rfl rfl rfl) ?_
                refine scons (CStep.guard rfl rfl rfl (fun hg0 => by have hp0 := hg0; (try simp only [bs] at hp0); exact PStep.c (p_add rfl (Sees.gv' rfl hg0) (Sees.of rfl) (by omega))) rfl rfl rfl rfl rfl) ?_
                refine scons (CStep.guard rfl rfl rfl (fun hg0 => PStep.c (p_neq rfl (Sees.gv' rfl hg0) (Sees.gv' rfl hg0))) rfl rfl rfl rfl rfl) ?_
                refine scons (CStep.step (PStep.c (p_or rfl (Sees.of rfl) (Sees.of rfl) (fun h => Sees.gv' rfl (beq_of_eq h)))) rfl rfl rfl rfl) ?_
                refine snil ?_
                refine f_cond rfl ?_ ?_
                · intro hc10
                  try simp only [bs] at hc10
                  refine f_seq ?_
                  refine f_region ?_
                  refine scons (CStep.step (PStep.c (p_build rfl wDia_plc28 wDia_zer28 (by decide) wDia_zch28 ⟨_, _, _, rfl, rfl, rfl, (Sees.of rfl), ⟨_, _, _, rfl, rfl, rfl, (Sees.of rfl), rfl⟩⟩ rfl)) rfl rfl rfl rfl) ?_
                  refine scons (r_storeS rfl wDia_siz28 rfl rfl rfl (Sees.of rfl) rfl (Sees.of rfl) rfl rfl rfl rfl) ?_
                  refine snil ?_
                  refine f_ret ?_
                  have hV := Sp.valid_of (n := n) (fun j hj => hall j (by omega))
                  have hf : ¬ Sp.fin l r = true := fun h => by
                    have := (Sp.fin_iff hV (by omega)).1 h q (by omega)
                    rcases hc10 with h | h
                    · omega
                    · exact h this.2
                  refine ends_ret (res_eq (res1 rfl (res_cell (by rfl) rfl rfl wDia_agg28 wDia_siz28 rfl rfl)) ?_)
                  rw [Sp.dia_end hc1 (by omega) (by omega) hp, if_neg (by omega), if_neg hf]
                  all_goals rfl
                · intro hc10
                  try simp only [bs] at hc10
                  refine f_skip ?_
                  refine f_nil ?_
                  show AWs _ _ _ _ _
                  refine f_region ?_
                  refine scons (CStep.step (PStep.c (p_move (y := .val _) rfl (Sees.of rfl) rfl)) rfl rfl rfl rfl) ?_
                  refine scons (CStep.step (PStep.c (p_add rfl (Sees.of rfl) (Sees.of rfl) (by omega))) rfl rfl rfl rfl) ?_
                  refine scons (CStep.step (PStep.c (p_assign (y := .val _) rfl (Sees.of rfl) rfl)) rfl rfl rfl rfl) ?_
                  refine snil ?_
                  refine f_back ⟨q + 1, ?_, ?_, le_ofL ⟨rfl, rfl, rfl, rfl, rfl, rfl, trivial⟩ rfl⟩
                  · refine ⟨by omega, fun j hj => ?_⟩
                    by_cases e : j = q
                    · rw [e]; exact ⟨by omega, hc10.2⟩
                    · exact hok j (by omega)
                  · omega
              · intro hc9
                try simp only [bs] at hc9
                refine f_exit ?_
                show AWs _ _ _ _ _
                refine f_seq ?_
                refine f_region ?_
                refine scons (CStep.step (PStep.c (p_build rfl wDia_plc28 wDia_zer28 (by decide) wDia_zch28 rfl rfl)) rfl rfl rfl rfl) ?_
                refine scons (r_storeS rfl wDia_siz28 rfl rfl rfl (Sees.of rfl) rfl (Sees.of rfl) rfl rfl rfl rfl) ?_
                refine snil ?_
                refine f_ret ?_
                have hV := Sp.valid_of (n := n) (fun j hj => hall j (by omega))
                have hf : Sp.fin l r = true := (Sp.fin_iff hV (by omega)).2 (fun j hj => hok j (by omega))
                refine ends_ret (res_eq (res1 rfl (res_cell (by rfl) rfl rfl wDia_agg28 wDia_siz28 rfl rfl)) ?_)
                rw [Sp.dia_end hc1 (by omega) (by omega) hp, if_neg (by omega), if_pos hf]
                all_goals rfl

theorem large_spec (n : Int) (l : List Sp.Cho) (r : Int) :
    Spec Go.Proofs.Try.prog 34 [iv n, .val (dia l r)] (D.bool ((decide (8 < n) && decide (n ≤ 16)) || (decide (300 < (l.length : Int)) && decide ((l.length : Int) ≤ 4000)))) := by
  refine spec_of' Go.Proofs.Try.func34 rfl Go.Proofs.Try.ntmps34 rfl ?_
  refine f_seq ?_
  refine f_region ?_
  refine scons (r_box (ob := 10003) rfl (Sees.of rfl) rfl rfl rfl rfl rfl rfl) ?_
  refine scons (CStep.step (PStep.c (p_assign (y := .val _) rfl (Sees.of rfl) rfl)) rfl rfl rfl rfl) ?_
  refine snil ?_
  refine f_seq ?_
  refine f_region ?_
  refine scons (CStep.step (PStep.c (p_move (y := .val _) rfl (Sees.of rfl) rfl)) rfl rfl rfl rfl) ?_
  refine scons (CStep.step (PStep.c (p_gtr rfl (Sees.of rfl) (Sees.of rfl))) rfl rfl rfl rfl) ?_
  refine scons (CStep.step (PStep.c (p_move (y := .val _) rfl (Sees.of rfl) rfl)) rfl rfl rfl rfl) ?_
  refine scons (CStep.guard rfl rfl rfl (fun hg0 => PStep.c (p_move (y := .val _) rfl (Sees.of rfl) rfl)) rfl rfl rfl rfl rfl) ?_
  refine scons (CStep.guard rfl rfl rfl (fun hg0 => PStep.c (p_leq rfl (Sees.gv' rfl hg0) (Sees.of rfl))) rfl rfl rfl rfl rfl) ?_
  refine scons (CStep.step (PStep.c (p_and rfl (Sees.of rfl) (fun h => Sees.gv' rfl (beq_of_eq h)) (Sees.of rfl))) rfl rfl rfl rfl) ?_
  refine scons (CStep.step (PStep.c (p_move (y := .val _) rfl (Sees.of rfl) rfl)) rfl rfl rfl rfl) ?_
  refine scons (CStep.guard rfl rfl rfl (fun hg0 => PStep.c (p_fieldRef rfl wDia_fld41_0 wDia_siz39 rfl (Sees.of rfl) rfl)) rfl rfl rfl rfl rfl) ?_
  refine scons (CStep.guard rfl rfl rfl (fun hg0 => PStep.c (p_loadB (y := .val _) rfl wDia_agg39 (Sees.gv' rfl hg0) rfl rfl rfl rfl)) rfl rfl rfl rfl rfl) ?_
  refine scons (CStep.guard rfl rfl rfl (fun hg0 => PStep.c (p_len rfl wDia_isl39 (Sees.gv' rfl hg0))) rfl rfl rfl rfl rfl) ?_
  refine scons (CStep.guard rfl rfl rfl (fun hg0 => PStep.c (p_gtr rfl (Sees.gv' rfl hg0) (Sees.of rfl))) rfl rfl rfl rfl rfl) ?_
  refine scons (CStep.guard rfl rfl rfl (fun hg0 => PStep.c (p_move (y := .val _) rfl (Sees.gv' rfl hg0) rfl)) rfl rfl rfl rfl rfl) ?_
  refine scons (CStep.guard2 rfl rfl rfl (fun hg1 hg0 => PStep.c (p_fieldRef rfl wDia_fld41_0 wDia_siz39 rfl (Sees.of rfl) rfl)) rfl rfl rfl rfl rfl) ?_
  refine scons (CStep.guard2 rfl rfl rfl (fun hg1 hg0 => PStep.c (p_loadB (y := .val _) rfl wDia_agg39 (Sees.gv' rfl (and_true_of hg1 hg0)) rfl rfl rfl rfl)) rfl rfl rfl rfl rfl) ?_
  refine scons (CStep.guard2 rfl rfl rfl (fun hg1 hg0 => PStep.c (p_len rfl wDia_isl39 (Sees.gv' rfl (and_true_of hg1 hg0)))) rfl rfl rfl rfl rfl) ?_
  refine scons (CStep.guard2 rfl rfl rfl (fun hg1 hg0 => PStep.c (p_leq rfl (Sees.gv' rfl (and_true_of hg1 hg0)) (Sees.of rfl))) rfl rfl rfl rfl rfl) ?_
  refine scons (CStep.guard rfl rfl rfl (fun hg0 => PStep.c (p_and rfl (Sees.gv' rfl hg0) (fun h => Sees.gv' rfl (and_true_of hg0 (beq_of_eq h))) (Sees.of rfl))) rfl rfl rfl rfl rfl) ?_
  refine scons (CStep.step (PStep.c (p_or rfl (Sees.of rfl) (Sees.of rfl) (fun h => Sees.gv' rfl (beq_of_eq h)))) rfl rfl rfl rfl) ?_
  refine scons (CStep.step (PStep.c (p_assign (y := .val _) rfl (Sees.of rfl) rfl)) rfl rfl rfl rfl) ?_
  refine snil ?_
  refine f_ret ?_
  refine ends_ret (res_eq (res1 rfl (res_tmp rfl (Sees.of rfl))) ?_)
  rfl

end Go.Um
