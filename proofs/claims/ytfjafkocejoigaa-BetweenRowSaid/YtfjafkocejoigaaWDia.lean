/- Walks of Go functions of this seat, each by its contract. No condition beyond what each theorem says. -/
import Derived.Test.YtfjafkocejoigaaBB
import Derived.Test.YtfjafkocejoigaaBC
import Derived.Test.YtfjafkocejoigaaWSat
import Derived.Test.YtfjafkocejoigaaPC
import Derived.Test.YtfjafkocejoigaaBD
import Derived.Test.YtfjafkocejoigaaProg
import Derived.KernelRfl
import Derived.Test.YtfjafkocejoigaaQ
set_option maxRecDepth 4000
namespace Go.Um
open Go Go.RowKit

theorem wDia_agg27 : IsAgg Go.Proofs.Try.prog 27 false := by unfold IsAgg; kernel_rfl
theorem wDia_agg29 : IsAgg Go.Proofs.Try.prog 29 true := by unfold IsAgg; kernel_rfl
theorem wDia_agg3 : IsAgg Go.Proofs.Try.prog 3 false := by unfold IsAgg; kernel_rfl
theorem wDia_agg31 : IsAgg Go.Proofs.Try.prog 31 true := by unfold IsAgg; kernel_rfl
theorem wDia_agg4 : IsAgg Go.Proofs.Try.prog 4 false := by unfold IsAgg; kernel_rfl
theorem wDia_agg56 : IsAgg Go.Proofs.Try.prog 56 false := by unfold IsAgg; kernel_rfl
theorem wDia_agg80 : IsAgg Go.Proofs.Try.prog 80 true := by unfold IsAgg; kernel_rfl
theorem wDia_agg82 : IsAgg Go.Proofs.Try.prog 82 false := by unfold IsAgg; kernel_rfl
theorem wDia_byt4 : Bytes Go.Proofs.Try.prog 4 1 := by unfold Bytes; kernel_rfl
theorem wDia_fld29_0 : IsField Go.Proofs.Try.prog 29 0 0 27 := by unfold IsField; kernel_rfl
theorem wDia_fld29_1 : IsField Go.Proofs.Try.prog 29 1 1 3 := by unfold IsField; kernel_rfl
theorem wDia_fld80_0 : IsField Go.Proofs.Try.prog 80 0 0 3 := by unfold IsField; kernel_rfl
theorem wDia_fld80_1 : IsField Go.Proofs.Try.prog 80 1 1 3 := by unfold IsField; kernel_rfl
theorem wDia_fld80_2 : IsField Go.Proofs.Try.prog 80 2 2 3 := by unfold IsField; kernel_rfl
theorem wDia_isf35 : IsFn Go.Proofs.Try.prog 35 := by unfold IsFn; kernel_rfl
theorem wDia_isf36 : IsFn Go.Proofs.Try.prog 36 := by unfold IsFn; kernel_rfl
theorem wDia_isf37 : IsFn Go.Proofs.Try.prog 37 := by unfold IsFn; kernel_rfl
theorem wDia_isf52 : IsFn Go.Proofs.Try.prog 52 := by unfold IsFn; kernel_rfl
theorem wDia_isl27 : IsSlice Go.Proofs.Try.prog 27 80 := by unfold IsSlice; kernel_rfl
theorem wDia_isl56 : IsSlice Go.Proofs.Try.prog 56 4 := by unfold IsSlice; kernel_rfl
theorem wDia_mix : (Go.Proofs.Try.prog).follows .mixedOrders = true := by kernel_rfl
theorem wDia_mty81 : MapTy Go.Proofs.Try.prog 81 80 4 vCho dCho Value.bool D.bool false := mapTy_cho (by kernel_rfl) ⟨_, _, _, Go.Proofs.Try.underlying80, by decide, by decide, by decide, rfl, rfl, rfl, Go.Proofs.Try.underlying3, Go.Proofs.Try.underlying3, Go.Proofs.Try.underlying3, by kernel_rfl, by kernel_rfl⟩ (by unfold Zero; kernel_rfl) (fun a _ _ => val_bool a) (fun a _ _ v h => valr_bool a v h) (fun _ => rfl)
theorem wDia_plc31 : Places Go.Proofs.Try.prog 31 [(0, 1), (1, 1)] := by unfold Places; kernel_rfl
theorem wDia_siz27 : Size Go.Proofs.Try.prog 27 1 := by unfold Size; kernel_rfl
theorem wDia_siz29 : Size Go.Proofs.Try.prog 29 2 := by unfold Size; kernel_rfl
theorem wDia_siz3 : Size Go.Proofs.Try.prog 3 1 := by unfold Size; kernel_rfl
theorem wDia_siz31 : Size Go.Proofs.Try.prog 31 2 := by unfold Size; kernel_rfl
theorem wDia_siz4 : Size Go.Proofs.Try.prog 4 1 := by unfold Size; kernel_rfl
theorem wDia_siz56 : Size Go.Proofs.Try.prog 56 1 := by unfold Size; kernel_rfl
theorem wDia_siz80 : Size Go.Proofs.Try.prog 80 3 := by unfold Size; kernel_rfl
theorem wDia_siz82 : Size Go.Proofs.Try.prog 82 1 := by unfold Size; kernel_rfl
def wDia_z31 : D := .cons (.int .i64 0) (.cons (.int .i64 0) (.nil))
theorem wDia_zch31 : ∀ (ok : Nat → Prop) (w : World), R Go.Proofs.Try.prog wDia_z31 ok w (Value.cells (.agg #[(.int .i64 0), (.int .i64 0)])).toList := fun _ _ => z_int (z_int (z_nil))
theorem wDia_zer3 : Zero Go.Proofs.Try.prog 3 (.int .i64 0) := by unfold Zero; kernel_rfl
theorem wDia_zer31 : Zero Go.Proofs.Try.prog 31 (.agg #[(.int .i64 0), (.int .i64 0)]) := by unfold Zero; kernel_rfl
theorem wDia_zer4 : Zero Go.Proofs.Try.prog 4 (.bool false) := by unfold Zero; kernel_rfl
theorem wDia_zer56 : Zero Go.Proofs.Try.prog 56 (.slice none 0 0) := by unfold Zero; kernel_rfl
theorem wDia_zer80 : Zero Go.Proofs.Try.prog 80 (.agg #[(.int .i64 0), (.int .i64 0), (.int .i64 0)]) := by unfold Zero; kernel_rfl
theorem wDia_zer82 : Zero Go.Proofs.Try.prog 82 .nilFunc := by unfold Zero; kernel_rfl

theorem diaIn_spec (k i : Int) (hi : 0 ≤ i ∧ i ≤ 100000) :
    Spec Go.Proofs.Try.prog 35 [iv k, .ptr (di i)] (D.bool (decide (0 ≤ k) && decide (k < i + 2))) := by
  refine spec_of' Go.Proofs.Try.func35 rfl Go.Proofs.Try.ntmps35 rfl ?_
  refine f_seq (f_region (zm2 rfl rfl rfl (snil (f_seq (f_region (zm1 rfl rfl rfl ?_)))))); refine zq (p_geq rfl Zz Zz) rfl (zm1 rfl rfl rfl ?_); refine scons (CStep.guard rfl rfl rfl (fun hg0 => PStep.c (p_move (y := .val _) rfl Zz rfl)) rfl rfl rfl rfl rfl) ?_; refine scons (CStep.guard rfl rfl rfl (fun hg0 => PStep.c (p_load rfl wDia_agg3 Zz rfl)) rfl rfl rfl rfl rfl) ?_; refine scons (CStep.guard rfl rfl rfl (fun hg0 => by have hp0 := hg0; (try simp only [bs] at hp0); exact PStep.c (p_add rfl (Sees.gv' rfl hg0) Zz (by omega))) rfl rfl rfl rfl rfl) ?_; refine scons (CStep.guard rfl rfl rfl (fun hg0 => PStep.c (p_lss rfl (Sees.gv' rfl hg0) (Sees.gv' rfl hg0))) rfl rfl rfl rfl rfl) ?_; refine zq (p_and rfl Zz (fun h => Sees.gv' rfl (beq_of_eq h)) Zz) rfl (zm2 rfl rfl rfl (snil (f_ret ?_)))
  refine ends_ret (res_eq (res1 rfl (res_tmp rfl (Sees.of rfl))) ?_)
  rfl

theorem level_spec (l : List Sp.Cho) (r i : Int) (h : 0 ≤ i ∧ i < l.length + 2) (hn : l.length ≤ 4000) :
    Spec Go.Proofs.Try.prog 36 [.val (dia l r), iv i] (di (Sp.lev l 17 i)) := by
  refine spec_of' Go.Proofs.Try.func36 rfl Go.Proofs.Try.ntmps36 rfl ?_
  refine f_seq (f_region ?_); refine scons (r_box (ob := 10002) rfl Zz rfl rfl rfl rfl rfl rfl) (zm2 rfl rfl rfl (snil (f_seq (f_seq (f_region (zm1 rfl rfl rfl ?_)))))); refine zq (p_lss rfl Zz Zz) rfl (snil (f_cond rfl ?_ ?_))
  · intro hc1; (try simp only [bs] at hc1); refine f_seq (f_region (zm2 rfl rfl rfl (snil (f_ret ?_))))
    refine ends_ret (res_eq (res1 rfl (res_tmp rfl (Sees.of rfl))) ?_)
    rw [Sp.lev, if_pos hc1]
  · intro hc1; (try simp only [bs] at hc1); refine f_skip (f_seq (f_region ?_)); refine zq (p_fieldRef rfl wDia_fld29_0 wDia_siz27 rfl Zz rfl) rfl ?_; refine zq (p_loadB (y := .val _) rfl wDia_agg27 Zz rfl rfl rfl rfl) rfl (zm1 rfl rfl rfl ?_); refine zq (p_sub rfl Zz Zz (by omega)) rfl ?_; refine zq ((by first | exact p_indexN rfl wDia_isl27 wDia_siz80 Zz Zz (by omega) | exact p_index rfl wDia_isl27 wDia_siz80 Zz Zz (by omega) (by omega))) rfl ?_; refine zq (p_fieldAddr rfl wDia_fld80_0 wDia_siz3 (by decide) Zz rfl rfl) rfl ?_; refine zq (p_load rfl wDia_agg3 Zz rfl) rfl (zm2 rfl rfl rfl (snil (f_ret ?_)))
    refine ends_ret (res_eq (res1 rfl (res_tmp rfl (Sees.of rfl))) ?_)
    rw [Sp.lev, if_neg (by omega)]
    all_goals rfl

theorem visit_spec (l : List Sp.Cho) (r : Int) (hV : Sp.Valid l) (hn : l.length ≤ 4000) (f : Nat) (i : Int) (ds : List Bool) (nx : Int) (res : Bool × List Bool × Int) (hi : 0 ≤ i ∧ i < f ∧ i < l.length + 2) (hs : Sp.VisOk l (ds, nx)) (hres : Sp.vis l f i (ds, nx) = res) :
    SpecB Go.Proofs.Try.prog 52 [iv i, .ref 30000 0 0, .ref 30001 0 0, .ref 30002 0 0, .ref 30003 0 0] [(30000, .box 0 (.ccons (.row 30004 0) .cnil)), (30001, .box 0 (.ccons (.val (chos l)) (.ccons (iv r) .cnil))), (30002, .box 0 (.ccons (.clo 52 (.ccons (.ref 30000 0 0) (.ccons (.ref 30001 0 0) (.ccons (.ref 30002 0 0) (.ccons (.ref 30003 0 0) .cnil))))) .cnil)), (30003, .box 0 (.ccons (iv nx) .cnil)), (30004, .arr 0 4 1 1 D.bool false ds)] (D.bool res.1) [(30000, .box 0 (.ccons (.row 30004 0) .cnil)), (30001, .box 0 (.ccons (.val (chos l)) (.ccons (iv r) .cnil))), (30002, .box 0 (.ccons (.clo 52 (.ccons (.ref 30000 0 0) (.ccons (.ref 30001 0 0) (.ccons (.ref 30002 0 0) (.ccons (.ref 30003 0 0) .cnil))))) .cnil)), (30003, .box 0 (.ccons (iv res.2.2) .cnil)), (30004, .arr 0 4 1 1 D.bool false res.2.1)] := by
  induction f generalizing i ds nx res with
  | zero => omega
  | succ f ih =>
    refine specB_of' Go.Proofs.Try.func52 rfl Go.Proofs.Try.ntmps52 rfl rfl rfl ?_
    refine f_seq (f_region (zm2 rfl rfl rfl (snil (f_seq (f_seq ?_)))))
    have hd := hs.1
    have hx := hs.2
    simp only at hd hx
    refine f_region (zm1 rfl rfl rfl ?_); refine zq (p_lss rfl Zz Zz) rfl (zm1 rfl rfl rfl ?_); refine scons (CStep.guard rfl rfl rfl (fun hg0 => PStep.c (p_loadB (y := .row _ _) rfl wDia_agg56 Zz rfl rfl rfl rfl)) rfl rfl rfl rfl rfl) ?_; refine scons (CStep.guard rfl rfl rfl (fun hg0 => PStep.c (p_move (y := .val _) rfl Zz rfl)) rfl rfl rfl rfl rfl) ?_; refine scons (CStep.guard rfl rfl rfl (fun hg0 => by have hp0 := hg0; (try simp only [bs] at hp0); exact PStep.c ((by first | exact p_indexR rfl wDia_isl56 wDia_siz4 (Sees.gv' rfl hg0) rfl (Sees.gv' rfl hg0) (by omega) | exact p_indexRZ rfl wDia_isl56 wDia_siz4 (Sees.gv' rfl hg0) rfl (Sees.gv' rfl hg0) (by omega) (by omega)))) rfl rfl rfl rfl rfl) ?_; refine scons (CStep.guard rfl rfl rfl (fun hg0 => by have hp0 := hg0; (try simp only [bs] at hp0); exact PStep.c (p_loadE rfl wDia_agg4 (Sees.gv' rfl hg0) rfl (by omega) (fun _ => rfl))) rfl rfl rfl rfl rfl) ?_; refine zq (p_or rfl Zz Zz (fun h => Sees.gv' rfl (beq_of_eq h))) rfl (snil (f_cond rfl ?_ ?_))
    · intro hc1; (try simp only [bs] at hc1); refine f_seq (f_region (zm2 rfl rfl rfl (snil (f_ret ?_))))
      have e : Sp.vis l (f + 1) i (ds, nx) = (true, ds, nx) := by rw [Sp.vis, if_pos hc1]
      rw [hres] at e
      subst e
      refine endsB_ret (resB_eq (resB_tmp rfl rfl (Sees.of rfl)) ?_) ⟨rfl, rfl, rfl, rfl, rfl, rfl, trivial⟩ rfl
      rfl
    · intro hc1; (try simp only [bs] at hc1); refine f_skip (f_seq ?_)
      have hv := hV (i - 2).toNat (by omega)
      have hs1 := Sp.vis_ok hV f (l.getD (i - 2).toNat (0, 0, 0)).2.1 (ds, nx) hv.1 (by omega) hs
      have hs2 := Sp.vis_ok hV f (l.getD (i - 2).toNat (0, 0, 0)).2.2 (Sp.vis l f (l.getD (i - 2).toNat (0, 0, 0)).2.1 (ds, nx)).2 hv.2.2.1 (by omega) hs1
      have hd2 := hs2.1
      have hx2 := hs2.2
      refine f_region ?_; refine zq (p_fieldRef rfl wDia_fld29_0 wDia_siz27 rfl Zz rfl) rfl ?_; refine zq (p_loadB (y := .val _) rfl wDia_agg27 Zz rfl rfl rfl rfl) rfl (zm1 rfl rfl rfl ?_); refine zq (p_sub rfl Zz Zz (by omega)) rfl ?_; refine zq ((by first | exact p_indexN rfl wDia_isl27 wDia_siz80 Zz Zz (by omega) | exact p_index rfl wDia_isl27 wDia_siz80 Zz Zz (by omega) (by omega))) rfl ?_; refine zq (p_loadS rfl wDia_agg80 wDia_siz80 Zz ⟨rfl, fun h => R_len rfl h⟩) rfl ?_; refine scons (r_alloc (ob := 10007) rfl wDia_zer80 rfl rfl rfl rfl rfl rfl) ?_; refine scons (r_storeS rfl wDia_siz80 rfl rfl rfl Zz rfl Zz rfl rfl rfl rfl) (snil (f_seq (f_seq (f_region ?_)))); refine zq (p_loadB (y := .clo _ _) rfl wDia_agg82 Zz rfl rfl rfl rfl) rfl ?_; refine zq (p_fieldRef rfl wDia_fld80_1 wDia_siz3 rfl Zz rfl) rfl ?_; refine zq (p_loadB (y := .val _) rfl wDia_agg3 Zz rfl rfl rfl rfl) rfl ?_; refine scons (r_callBC (ys := [iv (l.getD (i - 2).toNat (0, 0, 0)).2.1]) (us := [.ref 30000 0 0, .ref 30001 0 0, .ref 30002 0 0, .ref 30003 0 0]) rfl wDia_isf52 (ih (l.getD (i - 2).toNat (0, 0, 0)).2.1 ds nx _ ⟨hv.1, by omega, by omega⟩ hs rfl) Zz ⟨_, _, rfl, Zz, rfl⟩ ⟨rfl, rfl, rfl, rfl, rfl, trivial⟩ rfl rfl rfl rfl rfl rfl) ?_; refine zq (p_not rfl Zz) rfl (zm1 rfl rfl rfl ?_)
      rcases Bool.eq_false_or_eq_true ((Sp.vis l f (l.getD (i - 2).toNat (0, 0, 0)).2.1 (ds, nx)).1) with hq1 | hq1
      · skip
        refine scons (LStep.gtrue rfl rfl rfl rfl rfl (by first | exact hq1 | simp only [hq1, Bool.not_true, Bool.not_false] | simp [hq1]) (CStep.step (PStep.c (p_loadB (y := .clo _ _) rfl wDia_agg82 Zz rfl rfl rfl rfl)) rfl rfl rfl rfl)) ?_; refine scons (LStep.gtrue rfl rfl rfl rfl rfl (by first | exact hq1 | simp only [hq1, Bool.not_true, Bool.not_false] | simp [hq1]) (CStep.step (PStep.c (p_fieldRef rfl wDia_fld80_2 wDia_siz3 rfl Zz rfl)) rfl rfl rfl rfl)) ?_; refine scons (LStep.gtrue rfl rfl rfl rfl rfl (by first | exact hq1 | simp only [hq1, Bool.not_true, Bool.not_false] | simp [hq1]) (CStep.step (PStep.c (p_loadB (y := .val _) rfl wDia_agg3 Zz rfl rfl rfl rfl)) rfl rfl rfl rfl)) ?_; refine scons (LStep.gtrue rfl rfl rfl rfl rfl (by first | exact hq1 | simp only [hq1, Bool.not_true, Bool.not_false] | simp [hq1]) (r_callBC (ys := [iv (l.getD (i - 2).toNat (0, 0, 0)).2.2]) (us := [.ref 30000 0 0, .ref 30001 0 0, .ref 30002 0 0, .ref 30003 0 0]) rfl wDia_isf52 (ih (l.getD (i - 2).toNat (0, 0, 0)).2.2 (Sp.vis l f (l.getD (i - 2).toNat (0, 0, 0)).2.1 (ds, nx)).2.1 (Sp.vis l f (l.getD (i - 2).toNat (0, 0, 0)).2.1 (ds, nx)).2.2 (Sp.vis l f (l.getD (i - 2).toNat (0, 0, 0)).2.2 (Sp.vis l f (l.getD (i - 2).toNat (0, 0, 0)).2.1 (ds, nx)).2) ⟨hv.2.2.1, by omega, by omega⟩ hs1 rfl) Zz ⟨_, _, rfl, Zz, rfl⟩ ⟨rfl, rfl, rfl, rfl, rfl, trivial⟩ rfl rfl rfl rfl rfl rfl)) ?_; refine scons (LStep.gtrue rfl rfl rfl rfl rfl (by first | exact hq1 | simp only [hq1, Bool.not_true, Bool.not_false] | simp [hq1]) (CStep.step (PStep.c (p_not rfl Zz)) rfl rfl rfl rfl)) ?_; refine zq (p_or rfl Zz Zz (fun _ => Zz)) rfl (zm1 rfl rfl rfl ?_); refine scons (CStep.guard rfl rfl rfl (fun hg0 => PStep.c (p_move (y := .val _) rfl Zz rfl)) rfl rfl rfl rfl rfl) ?_; refine scons (CStep.guard rfl rfl rfl (fun hg0 => PStep.c (p_loadB (y := .val _) rfl wDia_agg3 Zz rfl rfl rfl rfl)) rfl rfl rfl rfl rfl) ?_; refine scons (CStep.guard rfl rfl rfl (fun hg0 => PStep.c (p_neq rfl (Sees.gv' rfl hg0) (Sees.gv' rfl hg0))) rfl rfl rfl rfl rfl) ?_; refine zq (p_or rfl Zz Zz (fun h => Sees.gv' rfl (beq_of_eq h))) rfl (snil (f_cond rfl ?_ ?_))
        · intro hc2; (try simp only [bs] at hc2); refine f_seq (f_region (zm2 rfl rfl rfl (snil (f_ret ?_))))
          have e : Sp.vis l (f + 1) i (ds, nx) = (false, (Sp.vis l f (l.getD (i - 2).toNat (0, 0, 0)).2.2 (Sp.vis l f (l.getD (i - 2).toNat (0, 0, 0)).2.1 (ds, nx)).2).2) := by
            rw [Sp.vis, if_neg (by simp only []; rw [hc1.2]; intro h; rcases h with h | h; omega; cases h), if_neg (by rw [hq1]; decide)]
            rcases hc2 with h | h
            · rcases h with h | h
              · exact absurd h (by rw [hq1]; decide)
              · rw [if_pos h]
            · by_cases h2 : (Sp.vis l f (l.getD (i - 2).toNat (0, 0, 0)).2.2 (Sp.vis l f (l.getD (i - 2).toNat (0, 0, 0)).2.1 (ds, nx)).2).1 = false
              · rw [if_pos h2]
              · rw [if_neg h2, if_pos h]
          rw [hres] at e
          subst e
          refine endsB_ret (resB_eq (resB_tmp rfl rfl (Sees.of rfl)) ?_) ⟨rfl, rfl, rfl, rfl, rfl, rfl, trivial⟩ rfl
          rfl
        · intro hc2; (try simp only [bs] at hc2); refine f_skip (f_seq (f_region ?_)); refine zq (p_loadB (y := .row _ _) rfl wDia_agg56 Zz rfl rfl rfl rfl) rfl (zm1 rfl rfl rfl ?_); refine zq ((by first | exact p_indexR rfl wDia_isl56 wDia_siz4 Zz rfl Zz (by omega) | exact p_indexRZ rfl wDia_isl56 wDia_siz4 Zz rfl Zz (by omega) (by omega))) rfl ?_; refine scons (r_storeE rfl wDia_siz4 rfl rfl rfl Zz rfl (by omega) Zz rfl) (snil (f_seq (f_region ?_))); refine zq (p_loadB (y := .val _) rfl wDia_agg3 Zz rfl rfl rfl rfl) rfl ?_; refine zq (p_add rfl Zz Zz (by omega)) rfl ?_; refine scons (r_store rfl wDia_siz3 rfl rfl rfl Zz rfl rfl Zz (one_val rfl)) (snil (f_seq (f_region (zm2 rfl rfl rfl (snil (f_ret ?_))))))
          have e : Sp.vis l (f + 1) i (ds, nx) = (true, (Sp.vis l f (l.getD (i - 2).toNat (0, 0, 0)).2.2 (Sp.vis l f (l.getD (i - 2).toNat (0, 0, 0)).2.1 (ds, nx)).2).2.1.set i.toNat true, (Sp.vis l f (l.getD (i - 2).toNat (0, 0, 0)).2.2 (Sp.vis l f (l.getD (i - 2).toNat (0, 0, 0)).2.1 (ds, nx)).2).2.2 + 1) := by
            rw [Sp.vis, if_neg (by simp only []; rw [hc1.2]; intro h; rcases h with h | h; omega; cases h), if_neg (by rw [hq1]; decide), if_neg (by rw [hc2.1.2]; decide), if_neg (fun h => h hc2.2)]
          rw [hres] at e
          subst e
          refine endsB_ret (resB_eq (resB_tmp rfl rfl (Sees.of rfl)) ?_) ⟨rfl, rfl, rfl, rfl, rfl, rfl, trivial⟩ rfl
          rfl
      · skip
        refine scons (LStep.gfalse rfl rfl rfl rfl rfl (by first | exact hq1 | simp only [hq1, Bool.not_true, Bool.not_false] | simp [hq1]) rfl rfl rfl) ?_; refine scons (LStep.gfalse rfl rfl rfl rfl rfl (by first | exact hq1 | simp only [hq1, Bool.not_true, Bool.not_false] | simp [hq1]) rfl rfl rfl) ?_; refine scons (LStep.gfalse rfl rfl rfl rfl rfl (by first | exact hq1 | simp only [hq1, Bool.not_true, Bool.not_false] | simp [hq1]) rfl rfl rfl) ?_; refine scons (LStep.gfalse rfl rfl rfl rfl rfl (by first | exact hq1 | simp only [hq1, Bool.not_true, Bool.not_false] | simp [hq1]) rfl rfl rfl) ?_; refine scons (LStep.gfalse rfl rfl rfl rfl rfl (by first | exact hq1 | simp only [hq1, Bool.not_true, Bool.not_false] | simp [hq1]) rfl rfl rfl) ?_; refine zq (p_or (bb := false) rfl Zz Zz (fun h => absurd h (by first | simp only [hq1, Bool.not_true, Bool.not_false, Bool.true_eq_false, Bool.false_eq_true, not_false_eq_true] | simp [hq1]))) rfl (zm1 rfl rfl rfl ?_); refine scons (CStep.guard rfl rfl rfl (fun hg0 => PStep.c (p_move (y := .val _) rfl Zz rfl)) rfl rfl rfl rfl rfl) ?_; refine scons (CStep.guard rfl rfl rfl (fun hg0 => PStep.c (p_loadB (y := .val _) rfl wDia_agg3 Zz rfl rfl rfl rfl)) rfl rfl rfl rfl rfl) ?_; refine scons (CStep.guard rfl rfl rfl (fun hg0 => PStep.c (p_neq rfl (Sees.gv' rfl hg0) (Sees.gv' rfl hg0))) rfl rfl rfl rfl rfl) ?_; refine zq (p_or rfl Zz Zz (fun h => Sees.gv' rfl (beq_of_eq h))) rfl (snil (f_cond rfl ?_ ?_))
        · intro hc3; (try simp only [bs] at hc3); refine f_seq (f_region (zm2 rfl rfl rfl (snil (f_ret ?_))))
          have e : Sp.vis l (f + 1) i (ds, nx) = (false, (Sp.vis l f (l.getD (i - 2).toNat (0, 0, 0)).2.1 (ds, nx)).2) := by
            rw [Sp.vis, if_neg (by simp only []; rw [hc1.2]; intro h; rcases h with h | h; omega; cases h), if_pos hq1]
          rw [hres] at e
          subst e
          refine endsB_ret (resB_eq (resB_tmp rfl rfl (Sees.of rfl)) ?_) ⟨rfl, rfl, rfl, rfl, rfl, rfl, trivial⟩ rfl
          rfl
        · intro hc3; (try simp only [bs] at hc3)
          exact absurd hc3.1.1 (by rw [hq1]; decide)

theorem finished_spec (l : List Sp.Cho) (r : Int) (hV : Sp.Valid l) (hn : l.length ≤ 4000) (hr : 0 ≤ r ∧ r < l.length + 2) :
    Spec Go.Proofs.Try.prog 37 [.val (dia l r)] (D.bool (Sp.fin l r)) := by
  refine spec_of' Go.Proofs.Try.func37 rfl Go.Proofs.Try.ntmps37 rfl ?_
  refine f_seq (f_region ?_); refine scons (r_box (ob := 30001) rfl Zz rfl rfl rfl rfl rfl rfl) (zm2 rfl rfl rfl (snil (f_seq (f_region ?_)))); refine scons (r_alloc (ob := 30003) rfl wDia_zer3 rfl rfl rfl rfl rfl rfl) ?_; refine scons (r_store rfl wDia_siz3 rfl rfl rfl Zz rfl rfl Zz (one_val rfl)) (snil (f_seq (f_region ?_))); refine zq (p_fieldRef rfl wDia_fld29_0 wDia_siz27 rfl Zz rfl) rfl ?_; refine zq (p_loadB (y := .val _) rfl wDia_agg27 Zz rfl rfl rfl rfl) rfl ?_; refine zq (p_len rfl wDia_isl27 Zz) rfl ?_; refine zq (p_add rfl Zz Zz (by omega)) rfl ?_; refine scons (r_make (m := l.length + 2) (f := D.bool) (z := false) (ob := 30004) rfl wDia_isl56 wDia_siz4 wDia_byt4 wDia_zer4 rfl rfl rfl (fun _ _ => rfl) Zz (by omega) (by omega) rfl rfl rfl rfl rfl) ?_; refine scons (r_alloc (ob := 30000) rfl wDia_zer56 rfl rfl rfl rfl rfl rfl) ?_; refine scons (r_storeR rfl wDia_siz56 rfl rfl rfl Zz rfl rfl Zz rfl) (snil (f_seq (f_region ?_))); refine scons (r_alloc (ob := 30002) rfl wDia_zer82 rfl rfl rfl rfl rfl rfl) (snil (f_seq (f_region ?_))); refine zq (p_makeFunc (l := [.tmp 4, .tmp 1, .tmp 5, .tmp 3]) rfl) rfl ?_; refine scons (r_store rfl wDia_siz82 rfl rfl rfl Zz rfl rfl Zz one_clo) (snil (f_seq (f_region ?_))); refine zq (p_loadB (y := .clo _ _) rfl wDia_agg82 Zz rfl rfl rfl rfl) rfl ?_; refine zq (p_fieldRef rfl wDia_fld29_1 wDia_siz3 rfl Zz rfl) rfl ?_; refine zq (p_loadB (y := .val _) rfl wDia_agg3 Zz rfl rfl rfl rfl) rfl ?_; refine scons (r_callBC (ys := [iv r]) (us := [.ref 30000 0 0, .ref 30001 0 0, .ref 30002 0 0, .ref 30003 0 0]) rfl wDia_isf52 (visit_spec l r hV hn (r.toNat + 1) r (List.replicate (l.length + 2) false) 2 _ ⟨hr.1, by omega, hr.2⟩ ⟨by simp, by show (0 : Int) ≤ 2; decide, by show (2 : Int) ≤ (l.length : Int) + 2; omega⟩ rfl) Zz ⟨_, _, rfl, Zz, rfl⟩ ⟨rfl, rfl, rfl, rfl, rfl, trivial⟩ rfl rfl rfl rfl rfl rfl) ?_; refine zm1 rfl rfl rfl ?_; refine scons (CStep.guard rfl rfl rfl (fun hg0 => PStep.c (p_loadB (y := .val _) rfl wDia_agg3 Zz rfl rfl rfl rfl)) rfl rfl rfl rfl rfl) ?_; refine scons (CStep.guard rfl rfl rfl (fun hg0 => PStep.c (p_fieldRef rfl wDia_fld29_0 wDia_siz27 rfl Zz rfl)) rfl rfl rfl rfl rfl) ?_; refine scons (CStep.guard rfl rfl rfl (fun hg0 => PStep.c (p_loadB (y := .val _) rfl wDia_agg27 (Sees.gv' rfl hg0) rfl rfl rfl rfl)) rfl rfl rfl rfl rfl) ?_; refine scons (CStep.guard rfl rfl rfl (fun hg0 => PStep.c (p_len rfl wDia_isl27 (Sees.gv' rfl hg0))) rfl rfl rfl rfl rfl) ?_; refine scons (CStep.guard rfl rfl rfl (fun hg0 => by have hp0 := hg0; (try simp only [bs] at hp0); exact PStep.c (p_add rfl (Sees.gv' rfl hg0) Zz (by omega))) rfl rfl rfl rfl rfl) ?_; refine scons (CStep.guard rfl rfl rfl (fun hg0 => PStep.c (p_eql rfl (Sees.gv' rfl hg0) (Sees.gv' rfl hg0))) rfl rfl rfl rfl rfl) ?_; refine zq (p_and rfl Zz (fun h => Sees.gv' rfl (beq_of_eq h)) Zz) rfl (zm2 rfl rfl rfl (snil (f_ret ?_)))
  refine ends_ret (res_eq (res1 rfl (res_tmp rfl (Sees.of rfl))) ?_)
  rfl

theorem diaCheck_spec (n : Int) (l : List Sp.Cho) (r : Int) :
    Spec Go.Proofs.Try.prog 21 [iv n, .val (dia l r)] (fault (Sp.diaCheck n l r).1 (Sp.diaCheck n l r).2) := by
  refine spec_of' Go.Proofs.Try.func21 rfl Go.Proofs.Try.ntmps21 rfl ?_
  refine f_seq (f_region ?_); refine scons (r_box (ob := 10003) rfl Zz rfl rfl rfl rfl rfl rfl) ?_; refine scons (r_alloc (ob := 10004) rfl wDia_zer31 rfl rfl rfl rfl rfl rfl) (snil (f_seq (f_block (f_seq (f_region (zm1 rfl rfl rfl ?_)))))); refine zq (p_lss rfl Zz Zz) rfl (zm1 rfl rfl rfl ?_); refine scons (CStep.guard rfl rfl rfl (fun hg0 => PStep.c (p_move (y := .val _) rfl Zz rfl)) rfl rfl rfl rfl rfl) ?_; refine scons (CStep.guard rfl rfl rfl (fun hg0 => PStep.c (p_gtr rfl (Sees.gv' rfl hg0) Zz)) rfl rfl rfl rfl rfl) ?_; refine zq (p_or rfl Zz Zz (fun h => Sees.gv' rfl (beq_of_eq h))) rfl (zm2 rfl rfl rfl (snil (f_cond rfl ?_ ?_)))
  · intro hc1; (try simp only [bs] at hc1); refine f_seq (f_region ?_); refine zq (p_build rfl wDia_plc31 wDia_zer31 (by decide) wDia_zch31 ⟨_, _, _, rfl, rfl, rfl, Zz, rfl⟩ rfl) rfl ?_; refine scons (r_storeS rfl wDia_siz31 rfl rfl rfl Zz rfl Zz rfl rfl rfl rfl) (snil (f_ret ?_))
    refine ends_ret (res_eq (res1 rfl (res_cell (by rfl) rfl rfl wDia_agg31 wDia_siz31 rfl rfl)) ?_)
    rw [Sp.diaCheck, if_pos hc1]
    all_goals rfl
  · intro hc1; (try simp only [bs] at hc1); refine f_seq (f_region ?_); refine zq (p_fieldRef rfl wDia_fld29_0 wDia_siz27 rfl Zz rfl) rfl ?_; refine zq (p_loadB (y := .val _) rfl wDia_agg27 Zz rfl rfl rfl rfl) rfl ?_; refine zq (p_len rfl wDia_isl27 Zz) rfl ?_; refine zq (p_gtr rfl Zz Zz) rfl (zm2 rfl rfl rfl (snil (f_cond rfl ?_ ?_)))
    · intro hc2; (try simp only [bs] at hc2); refine f_seq (f_region ?_); refine zq (p_build rfl wDia_plc31 wDia_zer31 (by decide) wDia_zch31 ⟨_, _, _, rfl, rfl, rfl, Zz, rfl⟩ rfl) rfl ?_; refine scons (r_storeS rfl wDia_siz31 rfl rfl rfl Zz rfl Zz rfl rfl rfl rfl) (snil (f_ret ?_))
      refine ends_ret (res_eq (res1 rfl (res_cell (by rfl) rfl rfl wDia_agg31 wDia_siz31 rfl rfl)) ?_)
      rw [Sp.diaCheck, if_neg (by omega), if_pos (by omega)]
      all_goals rfl
    · intro hc2; (try simp only [bs] at hc2); refine f_skip (f_nil ?_); show AWs _ _ _ _ _; refine f_seq (f_region ?_); refine scons (r_makeMap (ob := 10023) vCho Value.bool rfl rfl rfl rfl rfl rfl) (zm4 rfl rfl rfl (snil (f_seq (f_seq (f_region ?_))))); refine zq (p_fieldRef rfl wDia_fld29_0 wDia_siz27 rfl Zz rfl) rfl ?_; refine zq (p_loadB (y := .val _) rfl wDia_agg27 Zz rfl rfl rfl rfl) rfl ?_; refine zq (p_len rfl wDia_isl27 Zz) rfl (zm1 rfl rfl rfl (snil (f_block ?_)))
      refine f_loop (α := Nat) (fun i => i ≤ l.length ∧ Sp.diaFrom n l 0 = Sp.diaFrom n l i ∧ ∀ j, j < i → Sp.choWrong n l j = 0) (fun i => [(27, iv i), (5, .row 10023 0), (10023, .mp 0 vCho Value.bool ((l.take i).map fun x => (x, true))), (0, iv n), (3, .ref 10003 0 0), (4, .ref 10004 0 0), (25, .val (chos l)), (26, iv l.length), (10003, .box 0 (.ccons (.val (chos l)) (.ccons (iv r) .cnil))), (10004, .box 0 (.ccons (iv 0) (.ccons (iv 0) .cnil)))]) (fun i => l.length - i) 0 ?_ ?_ ?_
      · exact ⟨Nat.zero_le _, rfl, fun j hj => absurd hj (Nat.not_lt_zero _)⟩
      · exact le_ofL ⟨rfl, rfl, rfl, rfl, rfl, rfl, rfl, rfl, rfl, rfl, trivial⟩ rfl
      · rintro i ⟨hi, hp, hall⟩
        refine f_seq (f_region ?_); refine zq (p_lss rfl Zz Zz) rfl (snil (f_seq (f_cond rfl ?_ ?_)))
        · intro hc3; (try simp only [bs] at hc3); refine f_skip (f_seq (f_block (f_seq (f_region (zm1 rfl rfl rfl ?_))))); refine zq ((by first | exact p_indexN rfl wDia_isl27 wDia_siz80 Zz Zz (by omega) | exact p_index rfl wDia_isl27 wDia_siz80 Zz Zz (by omega) (by omega))) rfl ?_; refine zq (p_loadS rfl wDia_agg80 wDia_siz80 Zz ⟨rfl, fun h => R_len rfl h⟩) rfl ?_; refine scons (r_alloc (ob := 10006) rfl wDia_zer3 rfl rfl rfl rfl rfl rfl) ?_; refine scons (r_alloc (ob := 10007) rfl wDia_zer80 rfl rfl rfl rfl rfl rfl) ?_; refine scons (r_store rfl wDia_siz3 rfl rfl rfl Zz rfl rfl Zz (one_val rfl)) ?_; refine scons (r_storeS rfl wDia_siz80 rfl rfl rfl Zz rfl Zz rfl rfl rfl rfl) (snil (f_seq (f_region ?_))); refine zq (p_makeFunc (l := [.tmp 6]) rfl) rfl ?_; refine zq (p_assign (y := .clo _ _) rfl Zz rfl) rfl (snil (f_seq (f_block (f_seq (f_region ?_))))); refine zq (p_fieldRef rfl wDia_fld80_0 wDia_siz3 rfl Zz rfl) rfl ?_; refine zq (p_loadB (y := .val _) rfl wDia_agg3 Zz rfl rfl rfl rfl) rfl ?_; refine zq (p_lss rfl Zz Zz) rfl (zm1 rfl rfl rfl ?_); refine scons (CStep.guard rfl rfl rfl (fun hg0 => PStep.c (p_fieldRef rfl wDia_fld80_0 wDia_siz3 rfl Zz rfl)) rfl rfl rfl rfl rfl) ?_; refine scons (CStep.guard rfl rfl rfl (fun hg0 => PStep.c (p_loadB (y := .val _) rfl wDia_agg3 (Sees.gv' rfl hg0) rfl rfl rfl rfl)) rfl rfl rfl rfl rfl) ?_; refine scons (CStep.guard rfl rfl rfl (fun hg0 => PStep.c (p_move (y := .val _) rfl Zz rfl)) rfl rfl rfl rfl rfl) ?_; refine scons (CStep.guard rfl rfl rfl (fun hg0 => PStep.c (p_gtr rfl (Sees.gv' rfl hg0) (Sees.gv' rfl hg0))) rfl rfl rfl rfl rfl) ?_; refine zq (p_or rfl Zz Zz (fun h => Sees.gv' rfl (beq_of_eq h))) rfl (zm1 rfl rfl rfl ?_); refine scons (CStep.guard rfl rfl rfl (fun hg0 => PStep.c (p_move (y := .clo _ _) rfl Zz rfl)) rfl rfl rfl rfl rfl) ?_; refine scons (CStep.guard rfl rfl rfl (fun hg0 => PStep.c (p_fieldRef rfl wDia_fld80_1 wDia_siz3 rfl Zz rfl)) rfl rfl rfl rfl rfl) ?_; refine scons (CStep.guard rfl rfl rfl (fun hg0 => PStep.c (p_loadB (y := .val _) rfl wDia_agg3 (Sees.gv' rfl hg0) rfl rfl rfl rfl)) rfl rfl rfl rfl rfl) ?_; refine scons (CStep.guard rfl rfl rfl (fun hg0 => by have hp0 := hg0; (try simp only [bs] at hp0); exact c_callC (q := true) rfl wDia_isf35 (diaIn_spec (l.getD i (0, 0, 0)).2.1 i (by omega)) (Sees.gv' rfl hg0) (sl_cons (sh_ref1 Sees.same rfl rfl (sh_of Sees.same rfl)) (sl_nil)) (sa_cons (sh_of (Sees.gv' rfl hg0) rfl) (sa_nil)) (by rfl)) rfl rfl rfl rfl rfl) ?_; refine scons (CStep.guard rfl rfl rfl (fun hg0 => PStep.c (p_not rfl (Sees.gv' rfl hg0))) rfl rfl rfl rfl rfl) ?_; refine zq (p_or rfl Zz Zz (fun h => Sees.gv' rfl (beq_of_eq h))) rfl (zm1 rfl rfl rfl ?_); refine scons (CStep.guard rfl rfl rfl (fun hg0 => PStep.c (p_move (y := .clo _ _) rfl Zz rfl)) rfl rfl rfl rfl rfl) ?_; refine scons (CStep.guard rfl rfl rfl (fun hg0 => PStep.c (p_fieldRef rfl wDia_fld80_2 wDia_siz3 rfl Zz rfl)) rfl rfl rfl rfl rfl) ?_; refine scons (CStep.guard rfl rfl rfl (fun hg0 => PStep.c (p_loadB (y := .val _) rfl wDia_agg3 (Sees.gv' rfl hg0) rfl rfl rfl rfl)) rfl rfl rfl rfl rfl) ?_; refine scons (CStep.guard rfl rfl rfl (fun hg0 => by have hp0 := hg0; (try simp only [bs] at hp0); exact c_callC (q := true) rfl wDia_isf35 (diaIn_spec (l.getD i (0, 0, 0)).2.2 i (by omega)) (Sees.gv' rfl hg0) (sl_cons (sh_ref1 Sees.same rfl rfl (sh_of Sees.same rfl)) (sl_nil)) (sa_cons (sh_of (Sees.gv' rfl hg0) rfl) (sa_nil)) (by rfl)) rfl rfl rfl rfl rfl) ?_; refine scons (CStep.guard rfl rfl rfl (fun hg0 => PStep.c (p_not rfl (Sees.gv' rfl hg0))) rfl rfl rfl rfl rfl) ?_; refine zq (p_or rfl Zz Zz (fun h => Sees.gv' rfl (beq_of_eq h))) rfl (zm2 rfl rfl rfl (snil (f_cond rfl ?_ ?_)))
          · intro hc4; (try simp only [bs] at hc4); refine f_seq (f_region ?_); refine zq (p_loadB (y := .val _) rfl wDia_agg3 Zz rfl rfl rfl rfl) rfl ?_; refine zq (p_build rfl wDia_plc31 wDia_zer31 (by decide) wDia_zch31 ⟨_, _, _, rfl, rfl, rfl, Zz, ⟨_, _, _, rfl, rfl, rfl, Zz, rfl⟩⟩ rfl) rfl ?_; refine scons (r_storeS rfl wDia_siz31 rfl rfl rfl Zz rfl Zz rfl rfl rfl rfl) (snil (f_ret ?_))
            refine ends_ret (res_eq (res1 rfl (res_cell (by rfl) rfl rfl wDia_agg31 wDia_siz31 rfl rfl)) ?_)
            rw [Sp.dia_at hc1 (by omega) (by omega) hp (c := 3) (by rw [Sp.choWrong, if_pos (by omega)]) (by decide)]
            all_goals rfl
          · intro hc4; (try simp only [bs] at hc4); refine f_seq ?_; refine f_draw wDia_mix (by kernel_rfl) ?_; refine yq (p_fieldRef rfl wDia_fld80_1 wDia_siz3 rfl Zz rfl) rfl ?_; refine yq (p_loadB (y := .val _) rfl wDia_agg3 Zz rfl rfl rfl rfl) rfl ?_; refine yq (p_fieldRef rfl wDia_fld80_2 wDia_siz3 rfl Zz rfl) rfl ?_; refine yq (p_loadB (y := .val _) rfl wDia_agg3 Zz rfl rfl rfl rfl) rfl ?_; refine yq (p_eql rfl Zz Zz) rfl (zd1 rfl rfl rfl ?_); refine dcons (CStep.guard rfl rfl rfl (fun hg0 => PStep.c (p_loadBS rfl wDia_agg29 wDia_siz29 Zz rfl rfl rfl)) rfl rfl rfl rfl rfl) ?_; refine dcons (CStep.guard rfl rfl rfl (fun hg0 => PStep.c (p_fieldRef rfl wDia_fld80_1 wDia_siz3 rfl Zz rfl)) rfl rfl rfl rfl rfl) ?_; refine dcons (CStep.guard rfl rfl rfl (fun hg0 => PStep.c (p_loadB (y := .val _) rfl wDia_agg3 (Sees.gv' rfl hg0) rfl rfl rfl rfl)) rfl rfl rfl rfl rfl) ?_; refine dcons (CStep.guard rfl rfl rfl (fun hg0 => by have hp0 := hg0; (try simp only [bs] at hp0); exact c_call rfl wDia_isf36 ⟨_, _, rfl, (Sees.gv' rfl hg0), rfl, ⟨_, _, rfl, (Sees.gv' rfl hg0), rfl, rfl⟩⟩ (level_spec l r (l.getD i (0, 0, 0)).2.1 (by omega) (by omega))) rfl rfl rfl rfl rfl) ?_; refine dcons (CStep.guard rfl rfl rfl (fun hg0 => PStep.c (p_fieldRef rfl wDia_fld80_0 wDia_siz3 rfl Zz rfl)) rfl rfl rfl rfl rfl) ?_; refine dcons (CStep.guard rfl rfl rfl (fun hg0 => PStep.c (p_loadB (y := .val _) rfl wDia_agg3 (Sees.gv' rfl hg0) rfl rfl rfl rfl)) rfl rfl rfl rfl rfl) ?_; refine dcons (CStep.guard rfl rfl rfl (fun hg0 => PStep.c (p_leq rfl (Sees.gv' rfl hg0) (Sees.gv' rfl hg0))) rfl rfl rfl rfl rfl) ?_; refine yq (p_or rfl Zz Zz (fun h => Sees.gv' rfl (beq_of_eq h))) rfl (zd1 rfl rfl rfl ?_); refine dcons (CStep.guard rfl rfl rfl (fun hg0 => PStep.c (p_loadBS rfl wDia_agg29 wDia_siz29 Zz rfl rfl rfl)) rfl rfl rfl rfl rfl) ?_; refine dcons (CStep.guard rfl rfl rfl (fun hg0 => PStep.c (p_fieldRef rfl wDia_fld80_2 wDia_siz3 rfl Zz rfl)) rfl rfl rfl rfl rfl) ?_; refine dcons (CStep.guard rfl rfl rfl (fun hg0 => PStep.c (p_loadB (y := .val _) rfl wDia_agg3 (Sees.gv' rfl hg0) rfl rfl rfl rfl)) rfl rfl rfl rfl rfl) ?_; refine dcons (CStep.guard rfl rfl rfl (fun hg0 => by have hp0 := hg0; (try simp only [bs] at hp0); exact c_call rfl wDia_isf36 ⟨_, _, rfl, (Sees.gv' rfl hg0), rfl, ⟨_, _, rfl, (Sees.gv' rfl hg0), rfl, rfl⟩⟩ (level_spec l r (l.getD i (0, 0, 0)).2.2 (by omega) (by omega))) rfl rfl rfl rfl rfl) ?_; refine dcons (CStep.guard rfl rfl rfl (fun hg0 => PStep.c (p_fieldRef rfl wDia_fld80_0 wDia_siz3 rfl Zz rfl)) rfl rfl rfl rfl rfl) ?_; refine dcons (CStep.guard rfl rfl rfl (fun hg0 => PStep.c (p_loadB (y := .val _) rfl wDia_agg3 (Sees.gv' rfl hg0) rfl rfl rfl rfl)) rfl rfl rfl rfl rfl) ?_; refine dcons (CStep.guard rfl rfl rfl (fun hg0 => PStep.c (p_leq rfl (Sees.gv' rfl hg0) (Sees.gv' rfl hg0))) rfl rfl rfl rfl rfl) ?_; refine yq (p_or rfl Zz Zz (fun h => Sees.gv' rfl (beq_of_eq h))) rfl (zd2 rfl rfl rfl ?_); refine dnil (by kernel_rfl) (f_cond rfl ?_ ?_)
            · intro hc5; (try simp only [bs] at hc5); refine f_seq (f_region ?_); refine zq (p_loadB (y := .val _) rfl wDia_agg3 Zz rfl rfl rfl rfl) rfl ?_; refine zq (p_build rfl wDia_plc31 wDia_zer31 (by decide) wDia_zch31 ⟨_, _, _, rfl, rfl, rfl, Zz, ⟨_, _, _, rfl, rfl, rfl, Zz, rfl⟩⟩ rfl) rfl ?_; refine scons (r_storeS rfl wDia_siz31 rfl rfl rfl Zz rfl Zz rfl rfl rfl rfl) (snil (f_ret ?_))
              refine ends_ret (res_eq (res1 rfl (res_cell (by rfl) rfl rfl wDia_agg31 wDia_siz31 rfl rfl)) ?_)
              rw [Sp.dia_at hc1 (by omega) (by omega) hp (c := 5) (by rw [Sp.choWrong, if_neg (by omega), if_pos (by rw [Sp.lev_top _ hc1.2 hc4.1.1.2, Sp.lev_top _ hc1.2 hc4.1.1.2, ← or_assoc]; exact hc5)]) (by decide)]
              all_goals rfl
            · intro hc5; (try simp only [bs] at hc5); refine f_seq (f_region (zm3 rfl rfl rfl ?_)); refine zq (p_loadBS rfl wDia_agg80 wDia_siz80 Zz rfl rfl rfl) rfl ?_; refine zq (p_look (k := (l.getD i (0, 0, 0))) rfl wDia_mty81 Zz rfl Zz) rfl (zm2 rfl rfl rfl (snil (f_cond rfl ?_ ?_)))
              · intro hc6; (try simp only [bs] at hc6); refine f_seq (f_region ?_); refine zq (p_loadB (y := .val _) rfl wDia_agg3 Zz rfl rfl rfl rfl) rfl ?_; refine zq (p_build rfl wDia_plc31 wDia_zer31 (by decide) wDia_zch31 ⟨_, _, _, rfl, rfl, rfl, Zz, ⟨_, _, _, rfl, rfl, rfl, Zz, rfl⟩⟩ rfl) rfl ?_; refine scons (r_storeS rfl wDia_siz31 rfl rfl rfl Zz rfl Zz rfl rfl rfl rfl) (snil (f_ret ?_))
                refine ends_ret (res_eq (res1 rfl (res_cell (by rfl) rfl rfl wDia_agg31 wDia_siz31 rfl rfl)) ?_)
                rw [Sp.getL_set, decide_eq_true_eq] at hc6
                rw [Sp.dia_at hc1 (by omega) (by omega) hp (c := 7) (by rw [Sp.choWrong, if_neg (by omega), if_neg (by rw [Sp.lev_top _ hc1.2 hc4.1.1.2, Sp.lev_top _ hc1.2 hc4.1.1.2]; omega), if_pos hc6]) (by decide)]
                all_goals rfl
              · intro hc6; (try simp only [bs] at hc6); refine f_skip (f_nil ?_); show AWs _ _ _ _ _; refine f_region (zm3 rfl rfl rfl ?_); refine zq (p_loadBS rfl wDia_agg80 wDia_siz80 Zz rfl rfl rfl) rfl ?_; refine scons (r_mapPut (k := (l.getD i (0, 0, 0))) rfl wDia_mty81 rfl rfl rfl Zz rfl Zz Zz) (snil (f_nil ?_)); show AWs _ _ _ _ _; refine f_region ?_; refine zq (p_add rfl Zz Zz (by omega)) rfl (zm1 rfl rfl rfl (snil ?_))
                rw [Sp.getL_set, decide_eq_false_iff_not] at hc6
                have hw : Sp.choWrong n l i = 0 := by rw [Sp.choWrong, if_neg (by omega), if_neg (by rw [Sp.lev_top _ hc1.2 hc4.1.1.2, Sp.lev_top _ hc1.2 hc4.1.1.2]; omega), if_neg hc6]
                refine f_back ⟨i + 1, ?_, ?_, le_ofL ⟨rfl, rfl, (by rw [← Sp.put_set (by omega) hc6]; rfl), rfl, rfl, rfl, rfl, rfl, rfl, rfl, trivial⟩ rfl⟩
                · exact ⟨by omega, Sp.dia_next (by omega) hp hw, Sp.all_next hall hw⟩
                · omega
        · intro hc3; (try simp only [bs] at hc3); refine f_exit ?_; show AWs _ _ _ _ _; refine f_seq (f_block (f_seq (f_region ?_))); refine zq (p_fieldRef rfl wDia_fld29_1 wDia_siz3 rfl Zz rfl) rfl ?_; refine zq (p_loadB (y := .val _) rfl wDia_agg3 Zz rfl rfl rfl rfl) rfl ?_; refine zq (p_lss rfl Zz Zz) rfl (zm1 rfl rfl rfl ?_); refine scons (CStep.guard rfl rfl rfl (fun hg0 => PStep.c (p_fieldRef rfl wDia_fld29_1 wDia_siz3 rfl Zz rfl)) rfl rfl rfl rfl rfl) ?_; refine scons (CStep.guard rfl rfl rfl (fun hg0 => PStep.c (p_loadB (y := .val _) rfl wDia_agg3 (Sees.gv' rfl hg0) rfl rfl rfl rfl)) rfl rfl rfl rfl rfl) ?_; refine scons (CStep.guard rfl rfl rfl (fun hg0 => PStep.c (p_fieldRef rfl wDia_fld29_0 wDia_siz27 rfl Zz rfl)) rfl rfl rfl rfl rfl) ?_; refine scons (CStep.guard rfl rfl rfl (fun hg0 => PStep.c (p_loadB (y := .val _) rfl wDia_agg27 (Sees.gv' rfl hg0) rfl rfl rfl rfl)) rfl rfl rfl rfl rfl) ?_; refine scons (CStep.guard rfl rfl rfl (fun hg0 => PStep.c (p_len rfl wDia_isl27 (Sees.gv' rfl hg0))) rfl rfl rfl rfl rfl) ?_; refine scons (CStep.guard rfl rfl rfl (fun hg0 => by have hp0 := hg0; (try simp only [bs] at hp0); exact PStep.c (p_add rfl (Sees.gv' rfl hg0) Zz (by omega))) rfl rfl rfl rfl rfl) ?_; refine scons (CStep.guard rfl rfl rfl (fun hg0 => PStep.c (p_geq rfl (Sees.gv' rfl hg0) (Sees.gv' rfl hg0))) rfl rfl rfl rfl rfl) ?_; refine zq (p_or rfl Zz Zz (fun h => Sees.gv' rfl (beq_of_eq h))) rfl (zm2 rfl rfl rfl (snil (f_cond rfl ?_ ?_)))
          · intro hc7; (try simp only [bs] at hc7); refine f_seq (f_region ?_); refine zq (p_build rfl wDia_plc31 wDia_zer31 (by decide) wDia_zch31 ⟨_, _, _, rfl, rfl, rfl, Zz, ⟨_, _, _, rfl, rfl, rfl, Zz, rfl⟩⟩ rfl) rfl ?_; refine scons (r_storeS rfl wDia_siz31 rfl rfl rfl Zz rfl Zz rfl rfl rfl rfl) (snil (f_ret ?_))
            refine ends_ret (res_eq (res1 rfl (res_cell (by rfl) rfl rfl wDia_agg31 wDia_siz31 rfl rfl)) ?_)
            rw [Sp.dia_end hc1 (by omega) (by omega) hp, if_pos hc7]
            all_goals rfl
          · intro hc7; (try simp only [bs] at hc7); refine f_seq (f_region ?_); refine zq (p_loadBS rfl wDia_agg29 wDia_siz29 Zz rfl rfl rfl) rfl ?_; refine zc (c_call rfl wDia_isf37 ⟨_, _, rfl, Zz, rfl, rfl⟩ (finished_spec l r (Sp.valid_of (n := n) (fun j hj => hall j (by omega))) (by omega) (by omega))) rfl ?_; refine zq (p_not rfl Zz) rfl (zm2 rfl rfl rfl (snil (f_cond rfl ?_ ?_)))
            · intro hc8; (try simp only [bs] at hc8); refine f_seq (f_region ?_); refine zq (p_build rfl wDia_plc31 wDia_zer31 (by decide) wDia_zch31 ⟨_, _, _, rfl, rfl, rfl, Zz, ⟨_, _, _, rfl, rfl, rfl, Zz, rfl⟩⟩ rfl) rfl ?_; refine scons (r_storeS rfl wDia_siz31 rfl rfl rfl Zz rfl Zz rfl rfl rfl rfl) (snil (f_ret ?_))
              refine ends_ret (res_eq (res1 rfl (res_cell (by rfl) rfl rfl wDia_agg31 wDia_siz31 rfl rfl)) ?_)
              rw [Sp.dia_end hc1 (by omega) (by omega) hp, if_neg (by omega), if_neg (by rw [hc8]; decide)]
              all_goals rfl
            · intro hc8; (try simp only [bs] at hc8); refine f_skip (f_nil ?_); show AWs _ _ _ _ _; refine f_seq (f_region ?_); refine zq (p_build rfl wDia_plc31 wDia_zer31 (by decide) wDia_zch31 rfl rfl) rfl ?_; refine scons (r_storeS rfl wDia_siz31 rfl rfl rfl Zz rfl Zz rfl rfl rfl rfl) (snil (f_ret ?_))
              refine ends_ret (res_eq (res1 rfl (res_cell (by rfl) rfl rfl wDia_agg31 wDia_siz31 rfl rfl)) ?_)
              rw [Sp.dia_end hc1 (by omega) (by omega) hp, if_neg (by omega), if_pos hc8]
              all_goals rfl

end Go.Um
