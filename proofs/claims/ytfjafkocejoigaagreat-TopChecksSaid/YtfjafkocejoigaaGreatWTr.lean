/- Walks of Go functions of this seat, each by its contract. No condition beyond what each theorem says. -/
import Derived.Test.YtfjafkocejoigaaGreatBD
import Derived.Test.YtfjafkocejoigaaGreatPB
import Derived.Test.YtfjafkocejoigaaGreatProg
import Derived.KernelRfl
import Derived.Test.YtfjafkocejoigaaGreatQ
set_option maxRecDepth 4000
namespace Go.Um
open Go Go.RowKit

theorem wTr_agg104 : IsAgg Go.Proofs.Tryz.prog 104 false := by unfold IsAgg; kernel_rfl
theorem wTr_agg22 : IsAgg Go.Proofs.Tryz.prog 22 false := by unfold IsAgg; kernel_rfl
theorem wTr_agg23 : IsAgg Go.Proofs.Tryz.prog 23 false := by unfold IsAgg; kernel_rfl
theorem wTr_agg3 : IsAgg Go.Proofs.Tryz.prog 3 false := by unfold IsAgg; kernel_rfl
theorem wTr_byt3 : Bytes Go.Proofs.Tryz.prog 3 8 := by unfold Bytes; kernel_rfl
theorem wTr_fld106_0 : IsField Go.Proofs.Tryz.prog 106 0 0 23 := by unfold IsField; kernel_rfl
theorem wTr_fld106_1 : IsField Go.Proofs.Tryz.prog 106 1 1 22 := by unfold IsField; kernel_rfl
theorem wTr_fld106_2 : IsField Go.Proofs.Tryz.prog 106 2 2 22 := by unfold IsField; kernel_rfl
theorem wTr_fld106_3 : IsField Go.Proofs.Tryz.prog 106 3 3 104 := by unfold IsField; kernel_rfl
theorem wTr_isf117 : IsFn Go.Proofs.Tryz.prog 117 := by unfold IsFn; kernel_rfl
theorem wTr_isf35 : IsFn Go.Proofs.Tryz.prog 35 := by unfold IsFn; kernel_rfl
theorem wTr_isf75 : IsFn Go.Proofs.Tryz.prog 75 := by unfold IsFn; kernel_rfl
theorem wTr_isf76 : IsFn Go.Proofs.Tryz.prog 76 := by unfold IsFn; kernel_rfl
theorem wTr_isf83 : IsFn Go.Proofs.Tryz.prog 83 := by unfold IsFn; kernel_rfl
theorem wTr_isf90 : IsFn Go.Proofs.Tryz.prog 90 := by unfold IsFn; kernel_rfl
theorem wTr_isl22 : IsSlice Go.Proofs.Tryz.prog 22 3 := by unfold IsSlice; kernel_rfl
theorem wTr_isl23 : IsSlice Go.Proofs.Tryz.prog 23 22 := by unfold IsSlice; kernel_rfl
theorem wTr_mix : (Go.Proofs.Tryz.prog).follows .mixedOrders = true := by kernel_rfl
theorem wTr_mty104 : MapTy Go.Proofs.Tryz.prog 104 3 4 vInt di Value.bool D.bool false := mapTy_int (by kernel_rfl) Go.Proofs.Tryz.underlying3 (by unfold Zero; kernel_rfl) (fun a _ _ => val_bool a) (fun a _ _ v h => valr_bool a v h) (fun _ => rfl)
theorem wTr_plc106 : Places Go.Proofs.Tryz.prog 106 [(0, 1), (1, 1), (2, 1), (3, 1)] := by unfold Places; kernel_rfl
theorem wTr_siz104 : Size Go.Proofs.Tryz.prog 104 1 := by unfold Size; kernel_rfl
theorem wTr_siz22 : Size Go.Proofs.Tryz.prog 22 1 := by unfold Size; kernel_rfl
theorem wTr_siz23 : Size Go.Proofs.Tryz.prog 23 1 := by unfold Size; kernel_rfl
theorem wTr_siz3 : Size Go.Proofs.Tryz.prog 3 1 := by unfold Size; kernel_rfl
theorem wTr_zer106 : Zero Go.Proofs.Tryz.prog 106 (.agg #[(.slice none 0 0), (.slice none 0 0), (.slice none 0 0), (.map none)]) := by unfold Zero; kernel_rfl
theorem wTr_zer3 : Zero Go.Proofs.Tryz.prog 3 (.int .i64 0) := by unfold Zero; kernel_rfl

theorem Has_spec (uT uL uW uM : Nat) (cl : List (List Int)) (L W : List Int) (x : Int) :
    SpecB Go.Proofs.Tryz.prog 84 [.ref 30010 uT 0, iv x] [(30010, .box uT (.ccons (.val (intss cl)) (.ccons (.row 30011 uL) (.ccons (.row 30012 uW) (.ccons (.row 30013 uM) .cnil))))), (30011, .arr uL 3 1 8 di 0 L), (30012, .arr uW 3 1 8 di 0 W), (30013, .mp uM vInt Value.bool (Sp.vmap L))] (D.bool (decide (x ∈ L))) [(30010, .box uT (.ccons (.val (intss cl)) (.ccons (.row 30011 uL) (.ccons (.row 30012 uW) (.ccons (.row 30013 uM) .cnil))))), (30011, .arr uL 3 1 8 di 0 L), (30012, .arr uW 3 1 8 di 0 W), (30013, .mp uM vInt Value.bool (Sp.vmap L))] := by
  refine specB_of' Go.Proofs.Tryz.func84 rfl Go.Proofs.Tryz.ntmps84 rfl rfl rfl ?_
  refine f_seq (f_region (zm2 rfl rfl rfl (snil (f_seq (f_region ?_))))); refine zq (p_move (y := .ref _ _ _) rfl Zz rfl) rfl ?_; refine zq (p_nilRef rfl Zz rfl) rfl ?_; refine zq (p_fieldRef rfl wTr_fld106_3 wTr_siz104 rfl Zz rfl) rfl ?_; refine zq (p_loadB (y := .row _ _) rfl wTr_agg104 Zz rfl rfl rfl rfl) rfl (zm1 rfl rfl rfl ?_); refine zq (p_look rfl wTr_mty104 Zz rfl Zz) rfl (zm2 rfl rfl rfl (snil (f_ret ?_)))
  refine endsB_ret (resB_eq (resB_tmp rfl rfl (Sees.of rfl)) ?_) ⟨rfl, rfl, rfl, rfl, rfl, trivial⟩ rfl
  rw [Sp.vmap_get]

theorem Add_spec (uT uL uW uM : Nat) (cl : List (List Int)) (L W : List Int) (x w : Int) (hL : L.length ≤ 1000000000) (hW : W.length ≤ 1000000000) :
    SpecB Go.Proofs.Tryz.prog 83 [.ref 30010 uT 0, iv x, iv w] [(30010, .box uT (.ccons (.val (intss cl)) (.ccons (.row 30011 uL) (.ccons (.row 30012 uW) (.ccons (.row 30013 uM) .cnil))))), (30011, .arr uL 3 1 8 di 0 L), (30012, .arr uW 3 1 8 di 0 W), (30013, .mp uM vInt Value.bool (Sp.vmap L))] (.tup .nil) [(30010, .box uT (.ccons (.val (intss cl)) (.ccons (.row 30011 (uL + 1)) (.ccons (.row 30012 (uW + 1)) (.ccons (.row 30013 uM) .cnil))))), (30011, .arr (uL + 1) 3 1 8 di 0 (L ++ [x])), (30012, .arr (uW + 1) 3 1 8 di 0 (W ++ [w])), (30013, .mp uM vInt Value.bool (Sp.vmap (L ++ [x])))] := by
  refine specB_of' Go.Proofs.Tryz.func83 rfl Go.Proofs.Tryz.ntmps83 rfl rfl rfl ?_
  refine f_seq ?_; refine f_draw wTr_mix (by kernel_rfl) ?_; refine yq (p_move (y := .ref _ _ _) rfl Zz rfl) rfl ?_; refine yq (p_move (y := .ref _ _ _) rfl Zz rfl) rfl ?_; refine yq (p_move (y := .ref _ _ _) rfl Zz rfl) rfl ?_; refine yq (p_nilRef rfl Zz rfl) rfl ?_; refine yq (p_fieldRef rfl wTr_fld106_1 wTr_siz22 rfl Zz rfl) rfl ?_; refine yq (p_loadB (y := .row _ _) rfl wTr_agg22 Zz rfl rfl rfl rfl) rfl (zd1 rfl rfl rfl ?_); refine yc (c_buildSlice (f := di) (za := 0) (xs := [.tmp 12]) rfl rfl wTr_isl22 wTr_siz3 wTr_zer3 rfl rfl ⟨_, _, rfl, Zz, rfl, rfl, rfl⟩) rfl ?_; refine dcons (r_appendR (ob := 30011) rfl wTr_isl22 wTr_siz3 wTr_byt3 wTr_zer3 rfl rfl Zz rfl Zz (by simp only [List.length_cons, List.length_nil, List.length_append]; omega) (by simp only [List.length_cons, List.length_nil, List.length_append]; omega) rfl rfl rfl rfl rfl) ?_; refine yq (p_move (y := .ref _ _ _) rfl Zz rfl) rfl ?_; refine yq (p_nilRef rfl Zz rfl) rfl ?_; refine yq (p_fieldRef rfl wTr_fld106_2 wTr_siz22 rfl Zz rfl) rfl ?_; refine yq (p_loadB (y := .row _ _) rfl wTr_agg22 Zz rfl rfl rfl rfl) rfl (zd1 rfl rfl rfl ?_); refine yc (c_buildSlice (f := di) (za := 0) (xs := [.tmp 19]) rfl rfl wTr_isl22 wTr_siz3 wTr_zer3 rfl rfl ⟨_, _, rfl, Zz, rfl, rfl, rfl⟩) rfl ?_; refine dcons (r_appendR (ob := 30012) rfl wTr_isl22 wTr_siz3 wTr_byt3 wTr_zer3 rfl rfl Zz rfl Zz (by simp only [List.length_cons, List.length_nil, List.length_append]; omega) (by simp only [List.length_cons, List.length_nil, List.length_append]; omega) rfl rfl rfl rfl rfl) ?_; refine yq (p_nilRef rfl Zz rfl) rfl ?_; refine yq (p_fieldRef rfl wTr_fld106_1 wTr_siz22 rfl Zz rfl) rfl ?_; refine dcons (r_storeR rfl wTr_siz22 rfl rfl rfl Zz rfl rfl Zz rfl) ?_; refine yq (p_nilRef rfl Zz rfl) rfl ?_; refine yq (p_fieldRef rfl wTr_fld106_2 wTr_siz22 rfl Zz rfl) rfl ?_; refine dcons (r_storeR rfl wTr_siz22 rfl rfl rfl Zz rfl rfl Zz rfl) ?_; refine dnil (by kernel_rfl) (f_region ?_); refine zq (p_move (y := .ref _ _ _) rfl Zz rfl) rfl ?_; refine zq (p_nilRef rfl Zz rfl) rfl ?_; refine zq (p_fieldRef rfl wTr_fld106_3 wTr_siz104 rfl Zz rfl) rfl ?_; refine zq (p_loadB (y := .row _ _) rfl wTr_agg104 Zz rfl rfl rfl rfl) rfl (zm1 rfl rfl rfl ?_); refine scons (r_mapPut rfl wTr_mty104 rfl rfl rfl Zz rfl Zz Zz) (snil ?_)
  refine endsB_end (resB_eq (resB_none rfl) ?_) ⟨rfl, rfl, rfl, rfl, (by rw [← Sp.vmap_put]; rfl), trivial⟩ rfl
  rfl

theorem state_spec (uT uL uW uM : Nat) (cl : List (List Int)) (L W : List Int) (c : List Int) (hc : Sp.Cl c) (hF : Sp.Fine c) :
    SpecB Go.Proofs.Tryz.prog 117 [.ref 30010 uT 0, .val (ints c)] [(30010, .box uT (.ccons (.val (intss cl)) (.ccons (.row 30011 uL) (.ccons (.row 30012 uW) (.ccons (.row 30013 uM) .cnil))))), (30011, .arr uL 3 1 8 di 0 L), (30012, .arr uW 3 1 8 di 0 W), (30013, .mp uM vInt Value.bool (Sp.vmap L))] (two (D.bool (Sp.falseIn c L 0)) (di (Sp.must c L))) [(30010, .box uT (.ccons (.val (intss cl)) (.ccons (.row 30011 uL) (.ccons (.row 30012 uW) (.ccons (.row 30013 uM) .cnil))))), (30011, .arr uL 3 1 8 di 0 L), (30012, .arr uW 3 1 8 di 0 W), (30013, .mp uM vInt Value.bool (Sp.vmap L))] := by
  refine specB_of' Go.Proofs.Tryz.func117 rfl Go.Proofs.Tryz.ntmps117 rfl rfl rfl ?_
  refine f_seq ?_
  refine f_wf (.tmp 1) rfl (fun hwf => ?_) (by simp)
  have hlen : c.length ≤ 140737488355328 := hwf.1
  clear hwf
  refine f_region (zm2 rfl rfl rfl (zm2 rfl rfl rfl (snil (f_seq (f_region (zm2 rfl rfl rfl (snil (f_seq (f_seq (f_region (zm1 rfl rfl rfl ?_))))))))))); refine zq (p_len rfl wTr_isl22 Zz) rfl (zm1 rfl rfl rfl (snil (f_block ?_)))
  refine f_loop (α := Nat × Int) (fun (i, q) => i ≤ c.length ∧ (∀ y ∈ c.take i, y = q ∨ -y ∈ L) ∧ (q = 0 ∨ (q ∈ c.take i ∧ q ∉ L ∧ -q ∉ L))) (fun (i, q) => [(11, iv i), (6, iv q), (30010, .box uT (.ccons (.val (intss cl)) (.ccons (.row 30011 uL) (.ccons (.row 30012 uW) (.ccons (.row 30013 uM) .cnil))))), (30011, .arr uL 3 1 8 di 0 L), (30012, .arr uW 3 1 8 di 0 W), (30013, .mp uM vInt Value.bool (Sp.vmap L)), (29999, .clo 0 (.ccons (.ref 30010 uT 0) (.ccons (.row 30010 uT) (.ccons (.row 30011 uL) (.ccons (.row 30012 uW) (.ccons (.ref 30013 uM 0) (.ccons (.row 30013 uM) .cnil))))))), (0, .ref 30010 uT 0), (9, .val (ints c)), (10, iv c.length)]) (fun (i, q) => c.length - i) (0, 0) ?_ ?_ ?_
  · exact ⟨Nat.zero_le _, by simp, .inl rfl⟩
  · exact le_ofL ⟨rfl, rfl, rfl, rfl, rfl, rfl, rfl, rfl, rfl, rfl, trivial⟩ rfl
  · rintro ⟨i, q⟩ ⟨hi, hp, hq⟩
    refine f_seq (f_region ?_); refine zq (p_lss rfl Zz Zz) rfl (snil (f_seq (f_cond rfl ?_ ?_)))
    · intro hc1; (try simp only [bs] at hc1); refine f_skip (f_seq (f_block (f_seq ?_)))
      have hx := hF _ (Sp.getD_mem c i 0 (by omega))
      have hcm := Sp.getD_mem c i 0 (by omega)
      refine f_region ?_; refine zq ((by first | exact p_indexN rfl wTr_isl22 wTr_siz3 Zz Zz (by omega) | exact p_index rfl wTr_isl22 wTr_siz3 Zz Zz (by omega) (by omega))) rfl ?_; refine zq (p_load rfl wTr_agg3 Zz rfl) rfl (zm2 rfl rfl rfl (snil (f_block (f_seq (f_region ?_))))); refine zq (p_move (y := .ref _ _ _) rfl Zz rfl) rfl ?_; refine zq (p_nilRef rfl Zz rfl) rfl ?_; refine zq (p_fieldRef rfl wTr_fld106_3 wTr_siz104 rfl Zz rfl) rfl ?_; refine zq (p_loadB (y := .row _ _) rfl wTr_agg104 Zz rfl rfl rfl rfl) rfl (zm1 rfl rfl rfl ?_); refine zq (p_neg rfl Zz (by omega)) rfl ?_; refine zq (p_look rfl wTr_mty104 Zz rfl Zz) rfl (zm2 rfl rfl rfl (snil (f_cond rfl ?_ ?_)))
      · intro hc2; (try simp only [bs] at hc2)
        rw [Sp.vmap_get, decide_eq_true_eq] at hc2
        refine f_skip (f_nil ?_); show AWs _ _ _ _ _; refine f_nil ?_; show AWs _ _ _ _ _; refine f_region ?_; refine zq (p_add rfl Zz Zz (by omega)) rfl (zm1 rfl rfl rfl (snil ?_))
        refine f_back ⟨(i + 1, q), ?_, ?_, le_ofL ⟨rfl, rfl, rfl, rfl, rfl, rfl, rfl, rfl, rfl, rfl, trivial⟩ rfl⟩
        · refine ⟨by omega, Sp.step_all (z := 0) (by omega) hp (.inr hc2), hq.imp id (fun h => ⟨?_, h.2⟩)⟩
          rw [Sp.take_getD c i 0 (by omega)]
          exact List.mem_append_left _ h.1
        · show c.length - (i + 1) < c.length - i
          omega
      · intro hc2; (try simp only [bs] at hc2)
        rw [Sp.vmap_get, decide_eq_false_iff_not] at hc2
        refine f_seq (f_region ?_); refine zq (p_move (y := .ref _ _ _) rfl Zz rfl) rfl ?_; refine zq (p_nilRef rfl Zz rfl) rfl ?_; refine zq (p_fieldRef rfl wTr_fld106_3 wTr_siz104 rfl Zz rfl) rfl ?_; refine zq (p_loadB (y := .row _ _) rfl wTr_agg104 Zz rfl rfl rfl rfl) rfl (zm1 rfl rfl rfl ?_); refine zq (p_look rfl wTr_mty104 Zz rfl Zz) rfl (zm1 rfl rfl rfl ?_); refine scons (CStep.guard rfl rfl rfl (fun hg0 => PStep.c (p_move (y := .val _) rfl Zz rfl)) rfl rfl rfl rfl rfl) ?_; refine scons (CStep.guard rfl rfl rfl (fun hg0 => PStep.c (p_neq rfl (Sees.gv' rfl hg0) Zz)) rfl rfl rfl rfl rfl) ?_; refine zq (p_or rfl Zz Zz (fun h => Sees.gv' rfl (beq_of_eq h))) rfl (zm2 rfl rfl rfl (snil (f_cond rfl ?_ ?_)))
        · intro hc3; (try simp only [bs] at hc3)
          simp only [Sp.vmap_get] at hc3
          refine f_seq (f_region (zm2 rfl rfl rfl (zm2 rfl rfl rfl (snil (f_ret ?_)))))
          refine endsB_ret (resB_eq (resB2 rfl (resB1_tmp rfl (Sees.of rfl)) (resB1_tmp rfl (Sees.of rfl))) ?_) ⟨rfl, rfl, rfl, rfl, rfl, trivial⟩ rfl
          have h3 : c.getD i 0 ∈ L ∨ (q ≠ 0 ∧ q ∈ c ∧ q ≠ c.getD i 0 ∧ q ∉ L ∧ -q ∉ L) := by
            rcases hc3 with h3 | h3
            · exact .inl (by simpa using h3)
            · obtain ⟨h4, h5, h6⟩ := hq.resolve_left h3
              exact .inr ⟨h3, List.mem_of_mem_take h4, fun e => Sp.nodup_at hc.1 (i := i) (by omega) (e ▸ h4), h5, h6⟩
          obtain ⟨e1, e2⟩ := Sp.st_no hc hcm hc2 h3
          rw [e1, e2]
          all_goals rfl
        · intro hc3; (try simp only [bs] at hc3)
          simp only [Sp.vmap_get] at hc3
          refine f_region (zm1 rfl rfl rfl (zm2 rfl rfl rfl (snil (f_nil ?_)))); show AWs _ _ _ _ _; refine f_nil ?_; show AWs _ _ _ _ _; refine f_region ?_; refine zq (p_add rfl Zz Zz (by omega)) rfl (zm1 rfl rfl rfl (snil ?_))
          refine f_back ⟨(i + 1, c.getD i 0), ?_, ?_, le_ofL ⟨rfl, rfl, rfl, rfl, rfl, rfl, rfl, rfl, rfl, rfl, trivial⟩ rfl⟩
          · have h3 : c.getD i 0 ∉ L ∧ q = 0 := by simpa using hc3
            obtain ⟨h4, rfl⟩ := h3
            refine ⟨by omega, ?_, .inr ⟨?_, h4, hc2⟩⟩
            · refine Sp.step_all (z := 0) (by omega) (fun y hy => .inr ((hp y hy).resolve_left ?_)) (.inl rfl)
              exact (hc.2 y (List.mem_of_mem_take hy)).1
            · rw [Sp.take_getD c i 0 (by omega)]
              simp
          · show c.length - (i + 1) < c.length - i
            omega
    · intro hc1; (try simp only [bs] at hc1); refine f_exit ?_; show AWs _ _ _ _ _; refine f_seq (f_region (zm1 rfl rfl rfl ?_)); refine zq (p_eql rfl Zz Zz) rfl (zm1 rfl rfl rfl (zm2 rfl rfl rfl (zm2 rfl rfl rfl (snil (f_ret ?_)))))
      refine endsB_ret (resB_eq (resB2 rfl (resB1_tmp rfl (Sees.of rfl)) (resB1_tmp rfl (Sees.of rfl))) ?_) ⟨rfl, rfl, rfl, rfl, rfl, trivial⟩ rfl
      rw [List.take_of_length_le (by omega)] at hp hq
      obtain ⟨e1, e2⟩ := Sp.st_end hc hp hq
      rw [e1, e2]
      all_goals rfl

theorem Run_spec (uT uL uW uM : Nat) (cl : List (List Int)) (L W : List Int) (t' w' : List Int) (b : Int) (k : Nat) (hC : ∀ c ∈ cl, Sp.Cl c ∧ Sp.Fine c) (hB : L.length + Sp.room cl L ≤ 1000000) (hW : W.length ≤ 1000000) (hlc : cl.length ≤ 1000000) (hres : Sp.on cl L W = (t', w', b)) (hk : t'.length = L.length + k) :
    SpecB Go.Proofs.Tryz.prog 75 [.ref 30010 uT 0] [(30010, .box uT (.ccons (.val (intss cl)) (.ccons (.row 30011 uL) (.ccons (.row 30012 uW) (.ccons (.row 30013 uM) .cnil))))), (30011, .arr uL 3 1 8 di 0 L), (30012, .arr uW 3 1 8 di 0 W), (30013, .mp uM vInt Value.bool (Sp.vmap L))] (di b) [(30010, .box uT (.ccons (.val (intss cl)) (.ccons (.row 30011 (uL + k)) (.ccons (.row 30012 (uW + k)) (.ccons (.row 30013 uM) .cnil))))), (30011, .arr (uL + k) 3 1 8 di 0 t'), (30012, .arr (uW + k) 3 1 8 di 0 w'), (30013, .mp uM vInt Value.bool (Sp.vmap t'))] := by
  refine specB_of' Go.Proofs.Tryz.func75 rfl Go.Proofs.Tryz.ntmps75 rfl rfl rfl ?_
  refine f_seq (f_region (zm2 rfl rfl rfl (snil (f_block ?_))))
  refine f_loop (α := List Int × List Int × Nat) (fun (t, w, e) => Sp.on cl L W = Sp.on cl t w ∧ t.length = L.length + e ∧ w.length = W.length + e ∧ t.length + Sp.room cl t ≤ L.length + Sp.room cl L) (fun (t, w, e) => [(30010, .box uT (.ccons (.val (intss cl)) (.ccons (.row 30011 (uL + e)) (.ccons (.row 30012 (uW + e)) (.ccons (.row 30013 uM) .cnil))))), (30011, .arr (uL + e) 3 1 8 di 0 t), (30012, .arr (uW + e) 3 1 8 di 0 w), (30013, .mp uM vInt Value.bool (Sp.vmap t)), (29999, .clo 0 (.ccons (.ref 30010 uT 0) (.ccons (.row 30010 uT) (.ccons (.row 30011 uL) (.ccons (.row 30012 uW) (.ccons (.ref 30013 uM 0) (.ccons (.row 30013 uM) .cnil))))))), (0, .ref 30010 uT 0)]) (fun (t, w, e) => Sp.room cl t) (L, W, 0) ?_ ?_ ?_
  · exact ⟨rfl, rfl, rfl, Nat.le_refl _⟩
  · exact le_ofL ⟨rfl, rfl, rfl, rfl, rfl, rfl, trivial⟩ rfl
  · rintro ⟨t, w, e⟩ ⟨hon, hT, hWw, hrm⟩
    refine f_block (f_seq (f_region (zm2 rfl rfl rfl (snil (f_seq (f_seq (f_region ?_))))))); refine zq (p_move (y := .ref _ _ _) rfl Zz rfl) rfl ?_; refine zq (p_nilRef rfl Zz rfl) rfl ?_; refine zq (p_fieldRef rfl wTr_fld106_0 wTr_siz23 rfl Zz rfl) rfl ?_; refine zq (p_loadB (y := .val _) rfl wTr_agg23 Zz rfl rfl rfl rfl) rfl ?_; refine zq (p_len rfl wTr_isl23 Zz) rfl (zm1 rfl rfl rfl (snil (f_block ?_)))
    refine f_loop (α := Nat) (fun i => i ≤ cl.length ∧ ∀ c ∈ cl.take i, Sp.falseIn c t 0 = false) (fun i => [(15, iv i), (3, iv (Sp.idx (fun l => !decide (Sp.must l t = 0)) (cl.take i))), (30010, .box uT (.ccons (.val (intss cl)) (.ccons (.row 30011 (uL + e)) (.ccons (.row 30012 (uW + e)) (.ccons (.row 30013 uM) .cnil))))), (30011, .arr (uL + e) 3 1 8 di 0 t), (30012, .arr (uW + e) 3 1 8 di 0 w), (30013, .mp uM vInt Value.bool (Sp.vmap t)), (29999, .clo 0 (.ccons (.ref 30010 uT 0) (.ccons (.row 30010 uT) (.ccons (.row 30011 uL) (.ccons (.row 30012 uW) (.ccons (.ref 30013 uM 0) (.ccons (.row 30013 uM) .cnil))))))), (0, .ref 30010 uT 0), (13, .val (intss cl)), (14, iv cl.length)]) (fun i => cl.length - i) 0 ?_ ?_ ?_
    · exact ⟨Nat.zero_le _, by simp⟩
    · exact le_ofL ⟨rfl, (by rw [Sp.idxT_nil]; rfl), rfl, rfl, rfl, rfl, rfl, rfl, rfl, rfl, trivial⟩ rfl
    · rintro i ⟨hi, hp⟩
      refine f_seq (f_region ?_); refine zq (p_lss rfl Zz Zz) rfl (snil (f_seq (f_cond rfl ?_ ?_)))
      · intro hc1; (try simp only [bs] at hc1); refine f_skip (f_seq (f_block (f_seq (f_region (zm1 rfl rfl rfl ?_))))); refine zq ((by first | exact p_indexN rfl wTr_isl23 wTr_siz22 Zz Zz (by omega) | exact p_index rfl wTr_isl23 wTr_siz22 Zz Zz (by omega) (by omega))) rfl ?_; refine zq (p_load rfl wTr_agg22 Zz rfl) rfl (zm2 rfl rfl rfl (zm2 rfl rfl rfl (snil (f_seq ?_))))
        obtain ⟨hci, hfi⟩ := hC _ (Sp.getD_mem cl i [] (by omega))
        have hmi := Sp.getD_mem cl i [] (show i < cl.length by omega)
        refine f_region ?_; refine zq (p_move (y := .ref _ _ _) rfl Zz rfl) rfl (zm1 rfl rfl rfl ?_); refine scons (r_callB rfl wTr_isf117 (state_spec uT (uL + e) (uW + e) uM cl t w (cl.getD i []) hci hfi) ⟨_, _, rfl, Zz, ⟨_, _, rfl, Zz, rfl⟩⟩ ⟨rfl, rfl, rfl, rfl, trivial⟩ rfl rfl rfl rfl rfl rfl) (zm1 rfl rfl rfl ?_); refine zq (p_extract rfl Zz rfl) rfl ?_; refine zq (p_extract rfl Zz rfl) rfl (zm2 rfl rfl rfl (zm2 rfl rfl rfl (snil (f_seq (f_seq (f_region (zm1 rfl rfl rfl (snil (f_cond rfl ?_ ?_)))))))))
        · intro hc2; (try simp only [bs] at hc2); refine f_seq (f_region (zm1 rfl rfl rfl (zm2 rfl rfl rfl (snil (f_ret ?_)))))
          have hcf : Sp.conf cl t = i := Sp.idx_at (z := []) (by omega) hp hc2
          have hst : Sp.on cl t w = (t, w, (i : Int)) := by rw [Sp.on, if_pos (by omega), hcf]
          obtain ⟨rfl, rfl, rfl⟩ : t = t' ∧ w = w' ∧ (i : Int) = b := by
            rw [hon, hst] at hres
            have h1 := congrArg Prod.fst hres
            have h2 := congrArg (fun p => p.2.1) hres
            have h3 := congrArg (fun p => p.2.2) hres
            exact ⟨h1, h2, h3⟩
          obtain rfl : e = k := by omega
          refine endsB_ret (resB_eq (resB_tmp rfl rfl (Sees.of rfl)) ?_) ⟨rfl, rfl, rfl, rfl, rfl, trivial⟩ rfl
          rfl
        · intro hc2; (try simp only [bs] at hc2); refine f_skip (f_seq (f_region (zm1 rfl rfl rfl ?_))); refine zq (p_neq rfl Zz Zz) rfl (zm1 rfl rfl rfl ?_); refine scons (CStep.guard rfl rfl rfl (fun hg0 => PStep.c (p_move (y := .val _) rfl Zz rfl)) rfl rfl rfl rfl rfl) ?_; refine scons (CStep.guard rfl rfl rfl (fun hg0 => PStep.c (p_lss rfl (Sees.gv' rfl hg0) Zz)) rfl rfl rfl rfl rfl) ?_; refine zq (p_and rfl Zz (fun h => Sees.gv' rfl (beq_of_eq h)) Zz) rfl (snil (f_cond rfl ?_ ?_))
          · intro hc3; (try simp only [bs] at hc3); refine f_region (zm1 rfl rfl rfl (zm2 rfl rfl rfl (snil (f_nil ?_)))); show AWs _ _ _ _ _; refine f_region ?_; refine zq (p_add rfl Zz Zz (by omega)) rfl (zm1 rfl rfl rfl (snil ?_))
            refine f_back ⟨i + 1, ?_, ?_, le_ofL ⟨rfl, (by rw [Sp.idxT_new (z := []) (by omega) hc3.2 (by rw [Bool.not_eq_true', decide_eq_false_iff_not]; exact hc3.1)]; rfl), rfl, rfl, rfl, rfl, rfl, rfl, rfl, rfl, trivial⟩ rfl⟩
            · exact ⟨by omega, Sp.step_all (z := []) (by omega) hp hc2⟩
            · omega
          · intro hc3; (try simp only [bs] at hc3); refine f_skip (f_nil ?_); show AWs _ _ _ _ _; refine f_region ?_; refine zq (p_add rfl Zz Zz (by omega)) rfl (zm1 rfl rfl rfl (snil ?_))
            refine f_back ⟨i + 1, ?_, ?_, le_ofL ⟨rfl, (by rw [Sp.idxT_old (z := []) (by omega) (fun h => hc3.elim (fun h2 => (show ¬ Sp.must (cl.getD i []) t = 0 by simpa using h.1) h2) (fun h2 => absurd h.2 (by omega)))]; rfl), rfl, rfl, rfl, rfl, rfl, rfl, rfl, rfl, trivial⟩ rfl⟩
            · exact ⟨by omega, Sp.step_all (z := []) (by omega) hp hc2⟩
            · omega
      · intro hc1; (try simp only [bs] at hc1)
        have hL2 : Sp.idx (fun l => !decide (Sp.must l t = 0)) (cl.take i) = Sp.unit cl t := Sp.idxT_all _ (by omega)
        have hcf : ¬ 0 ≤ Sp.conf cl t := by
          rw [List.take_of_length_le (by omega)] at hp
          unfold Sp.conf
          rw [Sp.idx_none hp]
          decide
        rw [hL2]
        refine f_exit ?_; show AWs _ _ _ _ _; refine f_seq (f_seq (f_region (zm1 rfl rfl rfl ?_))); refine zq (p_lss rfl Zz Zz) rfl (snil (f_cond rfl ?_ ?_))
        · intro hc4; (try simp only [bs] at hc4); refine f_seq (f_region (zm2 rfl rfl rfl (snil (f_ret ?_))))
          have hst : Sp.on cl t w = (t, w, -1) := by rw [Sp.on, if_neg hcf, dif_pos hc4]
          obtain ⟨rfl, rfl, rfl⟩ : t = t' ∧ w = w' ∧ -1 = b := by
            rw [hon, hst] at hres
            have h1 := congrArg Prod.fst hres
            have h2 := congrArg (fun p => p.2.1) hres
            have h3 := congrArg (fun p => p.2.2) hres
            exact ⟨h1, h2, h3⟩
          obtain rfl : e = k := by omega
          refine endsB_ret (resB_eq (resB_tmp rfl rfl (Sees.of rfl)) ?_) ⟨rfl, rfl, rfl, rfl, rfl, trivial⟩ rfl
          rfl
        · intro hc4; (try simp only [bs] at hc4); refine f_skip (f_seq ?_)
          have hu : ¬ Sp.unit cl t < 0 := by omega
          have hul := Sp.idxFrom_range (fun l => !decide (Sp.must l t = 0)) cl 0
          rw [Sp.idxFrom_zero] at hul
          obtain ⟨hm0, hmm⟩ := Sp.unit_mem hu
          obtain ⟨hci, hfi⟩ := hC _ hmm
          have hul2 : 0 ≤ Sp.unit cl t ∧ Sp.unit cl t < cl.length := by unfold Sp.unit at hu ⊢; omega
          refine f_region ?_; refine zq (p_move (y := .ref _ _ _) rfl Zz rfl) rfl ?_; refine zq (p_move (y := .ref _ _ _) rfl Zz rfl) rfl ?_; refine zq (p_nilRef rfl Zz rfl) rfl ?_; refine zq (p_fieldRef rfl wTr_fld106_0 wTr_siz23 rfl Zz rfl) rfl ?_; refine zq (p_loadB (y := .val _) rfl wTr_agg23 Zz rfl rfl rfl rfl) rfl (zm1 rfl rfl rfl ?_); refine zq ((by first | exact p_indexN rfl wTr_isl23 wTr_siz22 Zz Zz (by omega) | exact p_index rfl wTr_isl23 wTr_siz22 Zz Zz (by omega) (by omega))) rfl ?_; refine zq (p_load rfl wTr_agg22 Zz rfl) rfl ?_; refine scons (r_callB rfl wTr_isf117 (state_spec uT (uL + e) (uW + e) uM cl t w (cl.getD (Sp.unit cl t).toNat []) hci hfi) ⟨_, _, rfl, Zz, ⟨_, _, rfl, Zz, rfl⟩⟩ ⟨rfl, rfl, rfl, rfl, trivial⟩ rfl rfl rfl rfl rfl rfl) (zm1 rfl rfl rfl ?_); refine zq (p_extract rfl Zz rfl) rfl ?_; refine zq (p_extract rfl Zz rfl) rfl (zm2 rfl rfl rfl (zm2 rfl rfl rfl (snil (f_region ?_)))); refine zq (p_move (y := .ref _ _ _) rfl Zz rfl) rfl (zm1 rfl rfl rfl (zm1 rfl rfl rfl ?_)); refine scons (r_callB rfl wTr_isf83 (Add_spec uT (uL + e) (uW + e) uM cl t w (Sp.must (cl.getD (Sp.unit cl t).toNat []) t) (Sp.unit cl t) (by omega) (by omega)) ⟨_, _, rfl, Zz, ⟨_, _, rfl, Zz, ⟨_, _, rfl, Zz, rfl⟩⟩⟩ ⟨rfl, rfl, rfl, rfl, trivial⟩ rfl rfl rfl rfl rfl rfl) (snil (f_nil ?_)); show AWs _ _ _ _ _
          refine f_back ⟨(t ++ [Sp.must (cl.getD (Sp.unit cl t).toNat []) t], w ++ [Sp.unit cl t], e + 1), ?_, ?_, le_ofL ⟨rfl, rfl, rfl, rfl, rfl, rfl, trivial⟩ rfl⟩
          · have hs := Sp.on_step hu
            refine ⟨?_, by rw [List.length_append, List.length_singleton]; omega, by rw [List.length_append, List.length_singleton]; omega, by rw [List.length_append, List.length_singleton]; omega⟩
            rw [hon, Sp.on, if_neg hcf, dif_neg hu]
          · exact Sp.on_step hu

theorem New_spec (u1 u2 u3 u4 : Nat) (cl : List (List Int)) :
    SpecV Go.Proofs.Tryz.prog 35 [.val (intss cl)] [(30010, .dead u1), (30011, .dead u2), (30012, .dead u3), (30013, .dead u4)] ((.ref 30010 (u1 + 1) 0)) [(30010, .box (u1 + 1) (.ccons (.val (intss cl)) (.ccons (.row 30011 (u2 + 1)) (.ccons (.row 30012 (u3 + 1)) (.ccons (.row 30013 (u4 + 1)) .cnil))))), (30011, .arr (u2 + 1) 3 1 8 di 0 ([])), (30012, .arr (u3 + 1) 3 1 8 di 0 ([])), (30013, .mp (u4 + 1) vInt Value.bool (Sp.vmap ([])))] := by
  refine specV_of' Go.Proofs.Tryz.func35 rfl Go.Proofs.Tryz.ntmps35 rfl rfl rfl rfl rfl ?_
  refine f_seq (f_region ?_); refine zq (p_assign (y := .any) rfl Zz rfl) rfl (snil (f_seq (f_region (zm1 rfl rfl rfl ?_)))); refine scons (r_makeMap (ob := 30013) vInt Value.bool rfl rfl rfl rfl rfl rfl) ?_; refine zq (p_buildV rfl wTr_plc106 wTr_zer106 rfl rfl ⟨_, _, _, _, _, rfl, rfl, rfl, Zz, (oneAt_val rfl), ⟨_, _, _, _, _, rfl, rfl, rfl, Zz, (oneAt_map rfl), ⟨rfl, rfl⟩⟩⟩ rfl) rfl ?_; refine scons (r_box (ob := 30010) rfl Zz rfl rfl rfl rfl rfl rfl) ?_; refine zq (p_assign (y := .ref _ _ _) rfl Zz rfl) rfl (snil ?_)
  refine f_le (GLe.le (g_adoptB (ob := 30010) (off := 1) (o1 := 30011) 3 1 8 di 0 rfl rfl rfl rfl rfl rfl rfl)) ?_ (by simp)
  refine f_le (GLe.le (g_adoptB (ob := 30010) (off := 2) (o1 := 30012) 3 1 8 di 0 rfl rfl rfl rfl rfl rfl rfl)) ?_ (by simp)
  refine f_ret ?_
  refine endsV_ret (resV_eq (resV_tmp rfl rfl rfl (Sees.of rfl)) ?_) ⟨rfl, rfl, rfl, rfl, rfl, trivial⟩ rfl
  rfl

theorem Negated_spec (l : List Int) (hF : Sp.Fine l) (hl : l.length ≤ 1000000) :
    Spec Go.Proofs.Tryz.prog 76 [.val (ints l)] (ints (l.map fun x => -x)) := by
  refine spec_of' Go.Proofs.Tryz.func76 rfl Go.Proofs.Tryz.ntmps76 rfl ?_
  refine f_seq ?_
  refine f_wf (.tmp 0) rfl (fun hwf => ?_) (by simp)
  have hlen : l.length ≤ 140737488355328 := hwf.1
  clear hwf
  refine f_region (zm5 rfl rfl rfl (snil (f_seq (f_region (zm5 rfl rfl rfl (snil (f_seq (f_seq (f_region (zm1 rfl rfl rfl ?_)))))))))); refine zq (p_len rfl wTr_isl22 Zz) rfl (zm1 rfl rfl rfl (snil (f_block ?_)))
  refine f_loop (α := Nat × Nat) (fun (i, u) => i ≤ l.length) (fun (i, u) => [(8, iv i), (3, .row 20003 u), (20003, .arr u 3 1 8 di 0 ((l.take i).map fun x => -x)), (2, .emp), (6, .val (ints l)), (7, iv l.length)]) (fun (i, u) => l.length - i) (0, 0) ?_ ?_ ?_
  · exact Nat.zero_le _
  · exact Le.trans (GLe.le (g_adopt (ob := 20003) (k := 3) 3 1 8 di 0 rfl rfl rfl rfl)) (le_ofL ⟨rfl, rfl, rfl, rfl, rfl, rfl, trivial⟩ rfl)
  · rintro ⟨i, u⟩ hi
    have hi : i ≤ l.length := hi
    refine f_seq (f_region ?_); refine zq (p_lss rfl Zz Zz) rfl (snil (f_seq (f_cond rfl ?_ ?_)))
    · intro hc1; (try simp only [bs] at hc1); refine f_skip (f_seq (f_block (f_seq ?_)))
      have hx := hF _ (Sp.getD_mem l i 0 (by omega))
      refine f_region ?_; refine zq ((by first | exact p_indexN rfl wTr_isl22 wTr_siz3 Zz Zz (by omega) | exact p_index rfl wTr_isl22 wTr_siz3 Zz Zz (by omega) (by omega))) rfl ?_; refine zq (p_load rfl wTr_agg3 Zz rfl) rfl (zm2 rfl rfl rfl (snil (f_region (zm3 rfl rfl rfl (zm1 rfl rfl rfl ?_))))); refine zq (p_neg rfl Zz (by omega)) rfl ?_; refine zc (c_buildSlice (f := di) (za := 0) (xs := [.tmp 14]) rfl rfl wTr_isl22 wTr_siz3 wTr_zer3 rfl rfl ⟨_, _, rfl, Zz, rfl, rfl, rfl⟩) rfl ?_; refine scons (r_appendR (ob := 20003) rfl wTr_isl22 wTr_siz3 wTr_byt3 wTr_zer3 rfl rfl Zz rfl Zz (by simp only [List.length_map, List.length_take, List.length_cons, List.length_nil]; omega) (by simp only [List.length_map, List.length_take, List.length_cons, List.length_nil]; omega) rfl rfl rfl rfl rfl) ?_; refine zm4 rfl rfl rfl (snil (f_nil ?_)); show AWs _ _ _ _ _; refine f_region ?_; refine zq (p_add rfl Zz Zz (by omega)) rfl (zm1 rfl rfl rfl (snil ?_))
      refine f_back ⟨(i + 1, u + 1), ?_, ?_, le_ofL ⟨rfl, rfl, (by rw [Sp.take_getD l i 0 (by omega), List.map_append]; rfl), rfl, rfl, rfl, trivial⟩ rfl⟩
      · show i + 1 ≤ l.length
        omega
      · show l.length - (i + 1) < l.length - i
        omega
    · intro hc1; (try simp only [bs] at hc1); refine f_exit ?_; show AWs _ _ _ _ _; refine f_seq (f_region (zm3 rfl rfl rfl (zm4 rfl rfl rfl (snil (f_ret ?_)))))
      refine ends_ret (res_eq (res1 rfl (res_row rfl rfl rfl)) ?_)
      obtain rfl : i = l.length := by omega
      rw [List.take_length]

theorem Assume_spec (cl : List (List Int)) (l : List Int) (hC : ∀ c ∈ cl, Sp.Cl c ∧ Sp.Fine c) (hl : l.length ≤ 100000) (hr : cl.flatten.length ≤ 100000) (hlc : cl.length ≤ 100000) :
    Spec Go.Proofs.Tryz.prog 90 [.val (intss cl), .val (ints l)] (.tup (.cons (.ptr (.agg (.cons (intss cl) (.cons (ints (Sp.on cl l (List.replicate l.length (-1))).1) (.cons (ints (Sp.on cl l (List.replicate l.length (-1))).2.1) (.cons .any .nil)))))) (.cons (di (Sp.on cl l (List.replicate l.length (-1))).2.2) .nil))) := by
  refine spec_of' Go.Proofs.Tryz.func90 rfl Go.Proofs.Tryz.ntmps90 rfl ?_
  refine f_seq ?_
  refine f_wf (.tmp 1) rfl (fun hwf => ?_) (by simp)
  have hlen : l.length ≤ 140737488355328 := hwf.1
  clear hwf
  refine f_region ?_; refine zq (p_assign (y := .any) rfl Zz rfl) rfl (zm2 rfl rfl rfl (snil (f_seq ?_)))
  refine f_le (le_dead (k := 30010) 0 rfl rfl rfl) ?_ (by simp)
  refine f_le (le_dead (k := 30011) 0 rfl rfl rfl) ?_ (by simp)
  refine f_le (le_dead (k := 30012) 0 rfl rfl rfl) ?_ (by simp)
  refine f_le (le_dead (k := 30013) 0 rfl rfl rfl) ?_ (by simp)
  refine f_region (zm1 rfl rfl rfl ?_); refine scons (r_callV rfl wTr_isf35 (New_spec 0 0 0 0 cl) ⟨_, _, rfl, Zz, rfl⟩ ⟨rfl, rfl, rfl, rfl, trivial⟩ rfl (⟨⟨_, rfl, Nat.lt_succ_self _⟩, ⟨_, rfl, Nat.lt_succ_self _⟩, ⟨_, rfl, Nat.lt_succ_self _⟩, ⟨_, rfl, Nat.lt_succ_self _⟩, trivial⟩) rfl rfl rfl rfl rfl rfl rfl) ?_; refine zq (p_assign (y := .ref _ _ _) rfl Zz rfl) rfl (snil (f_seq (f_seq (f_region (zm1 rfl rfl rfl ?_))))); refine zq (p_len rfl wTr_isl22 Zz) rfl (zm1 rfl rfl rfl (snil (f_block ?_)))
  refine f_loop (α := Nat) (fun i => i ≤ l.length) (fun i => [(13, iv i), (6, .ref 30010 1 0), (30010, .box 1 (.ccons (.val (intss cl)) (.ccons (.row 30011 (1 + i)) (.ccons (.row 30012 (1 + i)) (.ccons (.row 30013 1) .cnil))))), (30011, .arr (1 + i) 3 1 8 di 0 (l.take i)), (30012, .arr (1 + i) 3 1 8 di 0 (List.replicate i (-1))), (30013, .mp 1 vInt Value.bool (Sp.vmap (l.take i))), (5, iv 0), (11, .val (ints l)), (12, iv l.length)]) (fun i => l.length - i) 0 ?_ ?_ ?_
  · exact Nat.zero_le _
  · exact le_ofL ⟨rfl, rfl, rfl, rfl, rfl, rfl, rfl, rfl, rfl, trivial⟩ rfl
  · rintro i hi
    refine f_seq (f_region ?_); refine zq (p_lss rfl Zz Zz) rfl (snil (f_seq (f_cond rfl ?_ ?_)))
    · intro hc1; (try simp only [bs] at hc1); refine f_skip (f_seq (f_block (f_seq (f_region ?_)))); refine zq ((by first | exact p_indexN rfl wTr_isl22 wTr_siz3 Zz Zz (by omega) | exact p_index rfl wTr_isl22 wTr_siz3 Zz Zz (by omega) (by omega))) rfl ?_; refine zq (p_load rfl wTr_agg3 Zz rfl) rfl (zm2 rfl rfl rfl (snil (f_region ?_))); refine zq (p_move (y := .ref _ _ _) rfl Zz rfl) rfl (zm1 rfl rfl rfl ?_); refine scons (r_callB rfl wTr_isf83 (Add_spec 1 (1 + i) (1 + i) 1 cl (l.take i) (List.replicate i (-1)) (l.getD i 0) (-1) (by simp; omega) (by simp; omega)) ⟨_, _, rfl, Zz, ⟨_, _, rfl, Zz, ⟨_, _, rfl, Zz, rfl⟩⟩⟩ ⟨rfl, rfl, rfl, rfl, trivial⟩ rfl rfl rfl rfl rfl rfl) ?_; refine snil (f_nil ?_); show AWs _ _ _ _ _; refine f_region ?_; refine zq (p_add rfl Zz Zz (by omega)) rfl (zm1 rfl rfl rfl (snil ?_))
      refine f_back ⟨i + 1, ?_, ?_, le_ofL ⟨rfl, rfl, rfl, (by rw [Sp.take_getD l i 0 (by omega)]; rfl), (by rw [List.replicate_succ']; rfl), (by rw [Sp.take_getD l i 0 (by omega)]; rfl), rfl, rfl, rfl, trivial⟩ rfl⟩
      · omega
      · omega
    · intro hc1; (try simp only [bs] at hc1); refine f_exit ?_; show AWs _ _ _ _ _; refine f_seq ?_
      obtain rfl : i = l.length := by omega
      rw [List.take_length]
      have hol := Sp.on_len cl l (List.replicate l.length (-1))
      refine f_region ?_; refine zq (p_move (y := .ref _ _ _) rfl Zz rfl) rfl ?_; refine zq (p_move (y := .ref _ _ _) rfl Zz rfl) rfl ?_; refine scons (r_callB rfl wTr_isf75 (Run_spec 1 (1 + l.length) (1 + l.length) 1 cl l (List.replicate l.length (-1)) (Sp.on cl l (List.replicate l.length (-1))).1 (Sp.on cl l (List.replicate l.length (-1))).2.1 (Sp.on cl l (List.replicate l.length (-1))).2.2 ((Sp.on cl l (List.replicate l.length (-1))).1.length - l.length) hC (by have := Sp.room_le cl l; omega) (by simp; omega) (by omega) rfl (by omega)) ⟨_, _, rfl, Zz, rfl⟩ ⟨rfl, rfl, rfl, rfl, trivial⟩ rfl rfl rfl rfl rfl rfl) ?_; refine zq (p_assign (y := .ref _ _ _) rfl Zz rfl) rfl (zm2 rfl rfl rfl (snil (f_ret ?_)))
      refine ends_ret (res_eq (res2 rfl (res_ptr rfl rfl rfl (shc_cons (sh_of Sees.same rfl) (shc_cons (sh_row Sees.same rfl) (shc_cons (sh_row Sees.same rfl) (shc_cons (sh_map Sees.same rfl) shc_nil))))) (res_tmp rfl (Sees.of rfl))) ?_)
      rfl

theorem Falls_spec (cl : List (List Int)) (c : List Int) (hC : ∀ c ∈ cl, Sp.Cl c ∧ Sp.Fine c) (hF : Sp.Fine c) (hl : c.length ≤ 100000) (hr : cl.flatten.length ≤ 100000) (hlc : cl.length ≤ 100000) :
    Spec Go.Proofs.Tryz.prog 50 [.val (intss cl), .val (ints c)] (D.bool (decide (0 ≤ (Sp.on cl (c.map fun x => -x) (List.replicate (c.map fun x => -x).length (-1))).2.2))) := by
  refine spec_of' Go.Proofs.Tryz.func50 rfl Go.Proofs.Tryz.ntmps50 rfl ?_
  refine f_seq (f_region (zm2 rfl rfl rfl (snil (f_seq (f_region (zm1 rfl rfl rfl (zm1 rfl rfl rfl ?_))))))); refine zc (c_call rfl wTr_isf76 ⟨_, _, rfl, Zz, rfl, rfl⟩ (Negated_spec c hF (by omega))) rfl ?_; refine zc (c_call rfl wTr_isf90 ⟨_, _, rfl, Zz, rfl, ⟨_, _, rfl, Zz, rfl, rfl⟩⟩ (Assume_spec cl (c.map fun x => -x) hC (by simp; omega) hr hlc)) rfl ?_; refine zm1 rfl rfl rfl ?_; refine zq (p_extract rfl Zz rfl) rfl ?_; refine zq (p_extract rfl Zz rfl) rfl (zm2 rfl rfl rfl (zm2 rfl rfl rfl (snil (f_seq (f_region (zm1 rfl rfl rfl ?_)))))); refine zq (p_geq rfl Zz Zz) rfl (zm2 rfl rfl rfl (snil (f_ret ?_)))
  refine ends_ret (res_eq (res1 rfl (res_tmp rfl (Sees.of rfl))) ?_)
  rfl

end Go.Um
