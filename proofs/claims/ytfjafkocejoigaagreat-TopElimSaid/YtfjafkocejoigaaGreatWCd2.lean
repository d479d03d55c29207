/- Walks of Go functions of this seat, each by its contract. No condition beyond what each theorem says. -/
import Derived.Test.YtfjafkocejoigaaGreatWCd
import Derived.Test.YtfjafkocejoigaaGreatProg
import Derived.KernelRfl
set_option maxRecDepth 4000
namespace Go.Um
open Go Go.RowKit

theorem wCd2_agg22 : IsAgg Go.Proofs.Tryz.prog 22 false := by unfold IsAgg; kernel_rfl
theorem wCd2_agg23 : IsAgg Go.Proofs.Tryz.prog 23 false := by unfold IsAgg; kernel_rfl
theorem wCd2_agg3 : IsAgg Go.Proofs.Tryz.prog 3 false := by unfold IsAgg; kernel_rfl
theorem wCd2_agg34 : IsAgg Go.Proofs.Tryz.prog 34 false := by unfold IsAgg; kernel_rfl
theorem wCd2_agg36 : IsAgg Go.Proofs.Tryz.prog 36 true := by unfold IsAgg; kernel_rfl
theorem wCd2_agg4 : IsAgg Go.Proofs.Tryz.prog 4 false := by unfold IsAgg; kernel_rfl
theorem wCd2_agg91 : IsAgg Go.Proofs.Tryz.prog 91 false := by unfold IsAgg; kernel_rfl
theorem wCd2_byt22 : Bytes Go.Proofs.Tryz.prog 22 24 := by unfold Bytes; kernel_rfl
theorem wCd2_byt3 : Bytes Go.Proofs.Tryz.prog 3 8 := by unfold Bytes; kernel_rfl
theorem wCd2_byt54 : Bytes Go.Proofs.Tryz.prog 54 120 := by unfold Bytes; kernel_rfl
theorem wCd2_fld106_0 : IsField Go.Proofs.Tryz.prog 106 0 0 23 := by unfold IsField; kernel_rfl
theorem wCd2_fld106_1 : IsField Go.Proofs.Tryz.prog 106 1 1 22 := by unfold IsField; kernel_rfl
theorem wCd2_fld106_2 : IsField Go.Proofs.Tryz.prog 106 2 2 22 := by unfold IsField; kernel_rfl
theorem wCd2_fld94_0 : IsField Go.Proofs.Tryz.prog 94 0 0 3 := by unfold IsField; kernel_rfl
theorem wCd2_fld94_1 : IsField Go.Proofs.Tryz.prog 94 1 1 22 := by unfold IsField; kernel_rfl
theorem wCd2_fld94_2 : IsField Go.Proofs.Tryz.prog 94 2 2 4 := by unfold IsField; kernel_rfl
theorem wCd2_fld94_3 : IsField Go.Proofs.Tryz.prog 94 3 3 91 := by unfold IsField; kernel_rfl
theorem wCd2_fld94_4 : IsField Go.Proofs.Tryz.prog 94 4 4 22 := by unfold IsField; kernel_rfl
theorem wCd2_fld94_5 : IsField Go.Proofs.Tryz.prog 94 5 5 3 := by unfold IsField; kernel_rfl
theorem wCd2_fld94_6 : IsField Go.Proofs.Tryz.prog 94 6 6 34 := by unfold IsField; kernel_rfl
theorem wCd2_isf32 : IsFn Go.Proofs.Tryz.prog 32 := by unfold IsFn; kernel_rfl
theorem wCd2_isf35 : IsFn Go.Proofs.Tryz.prog 35 := by unfold IsFn; kernel_rfl
theorem wCd2_isf75 : IsFn Go.Proofs.Tryz.prog 75 := by unfold IsFn; kernel_rfl
theorem wCd2_isf76 : IsFn Go.Proofs.Tryz.prog 76 := by unfold IsFn; kernel_rfl
theorem wCd2_isf77 : IsFn Go.Proofs.Tryz.prog 77 := by unfold IsFn; kernel_rfl
theorem wCd2_isf81 : IsFn Go.Proofs.Tryz.prog 81 := by unfold IsFn; kernel_rfl
theorem wCd2_isf83 : IsFn Go.Proofs.Tryz.prog 83 := by unfold IsFn; kernel_rfl
theorem wCd2_isf84 : IsFn Go.Proofs.Tryz.prog 84 := by unfold IsFn; kernel_rfl
theorem wCd2_isf85 : IsFn Go.Proofs.Tryz.prog 85 := by unfold IsFn; kernel_rfl
theorem wCd2_isf86 : IsFn Go.Proofs.Tryz.prog 86 := by unfold IsFn; kernel_rfl
theorem wCd2_isl22 : IsSlice Go.Proofs.Tryz.prog 22 3 := by unfold IsSlice; kernel_rfl
theorem wCd2_isl23 : IsSlice Go.Proofs.Tryz.prog 23 22 := by unfold IsSlice; kernel_rfl
theorem wCd2_isl34 : IsSlice Go.Proofs.Tryz.prog 34 54 := by unfold IsSlice; kernel_rfl
theorem wCd2_mix : (Go.Proofs.Tryz.prog).follows .mixedOrders = true := by kernel_rfl
theorem wCd2_mty104 : MapTy Go.Proofs.Tryz.prog 104 3 4 vInt di Value.bool D.bool false := mapTy_int (by kernel_rfl) Go.Proofs.Tryz.underlying3 (by unfold Zero; kernel_rfl) (fun a _ _ => val_bool a) (fun a _ _ v h => valr_bool a v h) (fun _ => rfl)
theorem wCd2_plc36 : Places Go.Proofs.Tryz.prog 36 [(0, 1), (1, 1), (2, 1), (3, 1), (4, 1)] := by unfold Places; kernel_rfl
theorem wCd2_plc54 : Places Go.Proofs.Tryz.prog 54 [(0, 1), (1, 1), (2, 1), (3, 6)] := by unfold Places; kernel_rfl
theorem wCd2_siz22 : Size Go.Proofs.Tryz.prog 22 1 := by unfold Size; kernel_rfl
theorem wCd2_siz23 : Size Go.Proofs.Tryz.prog 23 1 := by unfold Size; kernel_rfl
theorem wCd2_siz3 : Size Go.Proofs.Tryz.prog 3 1 := by unfold Size; kernel_rfl
theorem wCd2_siz34 : Size Go.Proofs.Tryz.prog 34 1 := by unfold Size; kernel_rfl
theorem wCd2_siz36 : Size Go.Proofs.Tryz.prog 36 5 := by unfold Size; kernel_rfl
theorem wCd2_siz4 : Size Go.Proofs.Tryz.prog 4 1 := by unfold Size; kernel_rfl
theorem wCd2_siz54 : Size Go.Proofs.Tryz.prog 54 9 := by unfold Size; kernel_rfl
theorem wCd2_siz91 : Size Go.Proofs.Tryz.prog 91 1 := by unfold Size; kernel_rfl
def wCd2_z36 : D := .cons (.int .i64 0) (.cons (bools []) (.cons (stps []) (.cons (ints []) (.cons (.int .i64 0) (.nil)))))
theorem wCd2_zch36 : ∀ (ok : Nat → Prop) (w : World), R Go.Proofs.Tryz.prog wCd2_z36 ok w (Value.cells (.agg #[(.int .i64 0), (.slice none 0 0), (.slice none 0 0), (.slice none 0 0), (.int .i64 0)])).toList := fun _ _ => z_int (z_list (z_list (z_list (z_int (z_nil)))))
def wCd2_z54 : D := .cons (.int .i64 0) (.cons (ints []) (.cons (fras []) (.cons (.int .i64 0) (.cons (.int .i64 0) (.cons (.int .i64 0) (.cons (ints []) (.cons (.int .i64 0) (.cons (.int .i64 0) (.nil)))))))))
theorem wCd2_zch54 : ∀ (ok : Nat → Prop) (w : World), R Go.Proofs.Tryz.prog wCd2_z54 ok w (Value.cells (.agg #[(.int .i64 0), (.slice none 0 0), (.slice none 0 0), (.int .i64 0), (.int .i64 0), (.int .i64 0), (.slice none 0 0), (.int .i64 0), (.int .i64 0)])).toList := fun _ _ => z_int (z_list (z_list (z_int (z_int (z_int (z_list (z_int (z_int (z_nil)))))))))
theorem wCd2_zer22 : Zero Go.Proofs.Tryz.prog 22 (.slice none 0 0) := by unfold Zero; kernel_rfl
theorem wCd2_zer3 : Zero Go.Proofs.Tryz.prog 3 (.int .i64 0) := by unfold Zero; kernel_rfl
theorem wCd2_zer36 : Zero Go.Proofs.Tryz.prog 36 (.agg #[(.int .i64 0), (.slice none 0 0), (.slice none 0 0), (.slice none 0 0), (.int .i64 0)]) := by unfold Zero; kernel_rfl
theorem wCd2_zer54 : Zero Go.Proofs.Tryz.prog 54 (.agg #[(.int .i64 0), (.slice none 0 0), (.slice none 0 0), (.int .i64 0), (.int .i64 0), (.int .i64 0), (.slice none 0 0), (.int .i64 0), (.int .i64 0)]) := by unfold Zero; kernel_rfl

theorem propagate_spec (n : Nat) (asked : List Int) (ph : Bool) (ul us uT uL uW uM : Nat) (s : Sp.Sr) (k : Nat) (hI : Sp.Inv n s) (hn : n ≤ 120) (hc : s.cl.length ≤ 2500) (hk : s.run.L.length = s.L.length + k) :
    SpecB Go.Proofs.Tryz.prog 36 [.ref 30000 0 0] [(30000, .box 0 (.ccons (iv n) (.ccons (.val (ints asked)) (.ccons (bv ph) (.ccons (.ref 30010 uT 0) (.ccons (.row 30001 ul) (.ccons (iv (s.k)) (.ccons (.row 30002 us) .cnil)))))))), (30001, .arr ul 3 1 8 di 0 (s.lv)), (30002, .arr us 54 9 120 dStp (0, []) (lrn (s.st))), (30010, .box uT (.ccons (.val (intss (s.cl))) (.ccons (.row 30011 uL) (.ccons (.row 30012 uW) (.ccons (.row 30013 uM) .cnil))))), (30011, .arr uL 3 1 8 di 0 (s.L)), (30012, .arr uW 3 1 8 di 0 (s.W)), (30013, .mp uM vInt Value.bool (Sp.vmap (s.L)))] (di s.bad) [(30000, .box 0 (.ccons (iv n) (.ccons (.val (ints asked)) (.ccons (bv ph) (.ccons (.ref 30010 uT 0) (.ccons (.row 30001 (ul + k)) (.ccons (iv ((s.run).k)) (.ccons (.row 30002 us) .cnil)))))))), (30001, .arr (ul + k) 3 1 8 di 0 ((s.run).lv)), (30002, .arr us 54 9 120 dStp (0, []) (lrn ((s.run).st))), (30010, .box uT (.ccons (.val (intss ((s.run).cl))) (.ccons (.row 30011 (uL + k)) (.ccons (.row 30012 (uW + k)) (.ccons (.row 30013 uM) .cnil))))), (30011, .arr (uL + k) 3 1 8 di 0 ((s.run).L)), (30012, .arr (uW + k) 3 1 8 di 0 ((s.run).W)), (30013, .mp uM vInt Value.bool (Sp.vmap ((s.run).L)))] := by
  refine specB_of' Go.Proofs.Tryz.func36 rfl Go.Proofs.Tryz.ntmps36 rfl rfl rfl ?_
  refine f_seq ?_
  refine f_region ?_
  refine scons (CStep.step (PStep.c (p_assign (y := .val _) rfl (Sees.of rfl) rfl)) rfl rfl rfl rfl) ?_
  refine snil ?_
  refine f_seq ?_
  have hrm := hI.room hn hc
  have hrl := (hI.run.room hn hc).2.1
  have hll := hI.ll
  have hlw := hI.lw
  have hlr : s.run.lv = s.lv ++ List.replicate k s.k := by
    show s.lv ++ List.replicate (s.run.L.length - s.lv.length) s.k = _
    rw [show s.run.L.length - s.lv.length = k by omega]
  refine f_region ?_
  refine scons (CStep.step (PStep.c (p_move (y := .ref _ _ _) rfl (Sees.of rfl) rfl)) rfl rfl rfl rfl) ?_
  refine scons (CStep.step (PStep.c (p_nilRef rfl (Sees.of rfl) rfl)) rfl rfl rfl rfl) ?_
  refine scons (CStep.step (PStep.c (p_fieldRef rfl wCd2_fld94_3 wCd2_siz91 rfl (Sees.of rfl) rfl)) rfl rfl rfl rfl) ?_
  refine scons (CStep.step (PStep.c (p_loadB (y := .ref _ _ _) rfl wCd2_agg91 (Sees.of rfl) rfl rfl rfl rfl)) rfl rfl rfl rfl) ?_
  refine scons (r_callB rfl wCd2_isf75 (Run_spec uT uL uW uM s.cl s.L s.W s.run.L s.run.W s.bad k hrm.2.2 hrm.1 (by omega) (by omega) rfl hk) ⟨_, _, rfl, (Sees.of rfl), rfl⟩ ⟨rfl, rfl, rfl, rfl, trivial⟩ rfl rfl rfl rfl rfl rfl) ?_
  refine scons (CStep.step (PStep.c (p_assign (y := .val _) rfl (Sees.of rfl) rfl)) rfl rfl rfl rfl) ?_
  refine snil ?_
  refine f_seq ?_
  refine f_block ?_
  refine f_loop (α := Nat) (fun j => j ≤ k) (fun j => [(30000, .box 0 (.ccons (iv n) (.ccons (.val (ints asked)) (.ccons (bv ph) (.ccons (.ref 30010 uT 0) (.ccons (.row 30001 (ul + j)) (.ccons (iv (s.k)) (.ccons (.row 30002 us) .cnil)))))))), (30001, .arr (ul + j) 3 1 8 di 0 ((s.lv ++ List.replicate j s.k))), (30002, .arr us 54 9 120 dStp (0, []) (lrn (s.st))), (30010, .box uT (.ccons (.val (intss (s.cl))) (.ccons (.row 30011 (uL + k)) (.ccons (.row 30012 (uW + k)) (.ccons (.row 30013 uM) .cnil))))), (30011, .arr (uL + k) 3 1 8 di 0 (s.run.L)), (30012, .arr (uW + k) 3 1 8 di 0 (s.run.W)), (30013, .mp uM vInt Value.bool (Sp.vmap (s.run.L))), (3, iv s.bad), (29999, .clo 0 (.ccons (.ref 30000 0 0) (.ccons (.row 30000 0) (.ccons (.row 30001 ul) (.ccons (.row 30002 us) (.ccons (.ref 30010 uT 0) (.ccons (.row 30010 uT) (.ccons (.row 30011 uL) (.ccons (.row 30012 uW) (.ccons (.ref 30013 uM 0) (.ccons (.row 30013 uM) .cnil))))))))))), (0, .ref 30000 0 0), (2, iv 0)]) (fun j => k - j) 0 ?_ ?_ ?_
  · exact Nat.zero_le _
  · exact le_ofL ⟨rfl, (by rw [List.replicate_zero, List.append_nil]; rfl), rfl, rfl, rfl, rfl, rfl, rfl, rfl, rfl, rfl, trivial⟩ rfl
  · rintro j hj
    have hlvl : (s.lv ++ List.replicate j s.k).length = s.L.length + j := by
      rw [List.length_append, List.length_replicate]
      omega
    refine f_seq ?_
    refine f_seq ?_
    refine f_draw wCd2_mix (by kernel_rfl) ?_
    refine dcons (CStep.step (PStep.c (p_move (y := .ref _ _ _) rfl (Sees.of rfl) rfl)) rfl rfl rfl rfl) ?_
    refine dcons (CStep.step (PStep.c (p_nilRef rfl (Sees.of rfl) rfl)) rfl rfl rfl rfl) ?_
    refine dcons (CStep.step (PStep.c (p_fieldRef rfl wCd2_fld94_4 wCd2_siz22 rfl (Sees.of rfl) rfl)) rfl rfl rfl rfl) ?_
    refine dcons (CStep.step (PStep.c (p_loadB (y := .row _ _) rfl wCd2_agg22 (Sees.of rfl) rfl rfl rfl rfl)) rfl rfl rfl rfl) ?_
    refine dcons (CStep.step (PStep.c (p_lenR rfl wCd2_isl22 (Sees.of rfl) rfl)) rfl rfl rfl rfl) ?_
    refine dcons (CStep.step (PStep.c (p_move (y := .ref _ _ _) rfl (Sees.of rfl) rfl)) rfl rfl rfl rfl) ?_
    refine dcons (CStep.step (PStep.c (p_nilRef rfl (Sees.of rfl) rfl)) rfl rfl rfl rfl) ?_
    refine dcons (CStep.step (PStep.c (p_fieldRef rfl wCd2_fld94_3 wCd2_siz91 rfl (Sees.of rfl) rfl)) rfl rfl rfl rfl) ?_
    refine dcons (CStep.step (PStep.c (p_loadB (y := .ref _ _ _) rfl wCd2_agg91 (Sees.of rfl) rfl rfl rfl rfl)) rfl rfl rfl rfl) ?_
    refine dcons (CStep.step (PStep.c (p_nilRef rfl (Sees.of rfl) rfl)) rfl rfl rfl rfl) ?_
    refine dcons (CStep.step (PStep.c (p_fieldRef rfl wCd2_fld106_1 wCd2_siz22 rfl (Sees.of rfl) rfl)) rfl rfl rfl rfl) ?_
    refine dcons (CStep.step (PStep.c (p_loadB (y := .row _ _) rfl wCd2_agg22 (Sees.of rfl) rfl rfl rfl rfl)) rfl rfl rfl rfl) ?_
    refine dcons (CStep.step (PStep.c (p_lenR rfl wCd2_isl22 (Sees.of rfl) rfl)) rfl rfl rfl rfl) ?_
    refine dcons (CStep.step (PStep.c (p_lss rfl (Sees.of rfl) (Sees.of rfl))) rfl rfl rfl rfl) ?_
    refine dnil (by kernel_rfl) ?_
    refine f_cond rfl ?_ ?_
    · intro hc1
      try simp only [bs] at hc1
      refine f_skip ?_
      refine f_block ?_
      refine f_draw wCd2_mix (by kernel_rfl) ?_
      refine dcons (CStep.step (PStep.c (p_move (y := .ref _ _ _) rfl (Sees.of rfl) rfl)) rfl rfl rfl rfl) ?_
      refine dcons (CStep.step (PStep.c (p_move (y := .ref _ _ _) rfl (Sees.of rfl) rfl)) rfl rfl rfl rfl) ?_
      refine dcons (CStep.step (PStep.c (p_nilRef rfl (Sees.of rfl) rfl)) rfl rfl rfl rfl) ?_
      refine dcons (CStep.step (PStep.c (p_fieldRef rfl wCd2_fld94_4 wCd2_siz22 rfl (Sees.of rfl) rfl)) rfl rfl rfl rfl) ?_
      refine dcons (CStep.step (PStep.c (p_loadB (y := .row _ _) rfl wCd2_agg22 (Sees.of rfl) rfl rfl rfl rfl)) rfl rfl rfl rfl) ?_
      refine dcons (CStep.step (PStep.c (p_move (y := .ref _ _ _) rfl (Sees.of rfl) rfl)) rfl rfl rfl rfl) ?_
      refine dcons (CStep.step (PStep.c (p_nilRef rfl (Sees.of rfl) rfl)) rfl rfl rfl rfl) ?_
      refine dcons (CStep.step (PStep.c (p_fieldRef rfl wCd2_fld94_5 wCd2_siz3 rfl (Sees.of rfl) rfl)) rfl rfl rfl rfl) ?_
      refine dcons (CStep.step (PStep.c (p_loadB (y := .val _) rfl wCd2_agg3 (Sees.of rfl) rfl rfl rfl rfl)) rfl rfl rfl rfl) ?_
      refine dcons (CStep.step (c_buildSlice (f := di) (za := 0) (xs := [.tmp 31]) rfl rfl wCd2_isl22 wCd2_siz3 wCd2_zer3 rfl rfl ⟨_, _, rfl, (Sees.of rfl), rfl, rfl, rfl⟩) rfl rfl rfl rfl) ?_
      refine dcons (r_appendR (ob := 30001) rfl wCd2_isl22 wCd2_siz3 wCd2_byt3 wCd2_zer3 rfl rfl (Sees.of rfl) rfl (Sees.of rfl) (by simp only [List.length_append, List.length_replicate, List.length_cons, List.length_nil]; omega) (by simp only [List.length_append, List.length_replicate, List.length_cons, List.length_nil]; omega) rfl rfl rfl rfl rfl) ?_
      refine dcons (CStep.step (PStep.c (p_nilRef rfl (Sees.of rfl) rfl)) rfl rfl rfl rfl) ?_
      refine dcons (CStep.step (PStep.c (p_fieldRef rfl wCd2_fld94_4 wCd2_siz22 rfl (Sees.of rfl) rfl)) rfl rfl rfl rfl) ?_
      refine dcons (r_storeR rfl wCd2_siz22 rfl rfl rfl (Sees.of rfl) rfl rfl (Sees.of rfl) rfl) ?_
      refine dnil (by kernel_rfl) ?_
      refine f_nil ?_
      show AWs _ _ _ _ _
      refine f_back ⟨j + 1, ?_, ?_, le_ofL ⟨rfl, (by rw [List.replicate_succ', ← List.append_assoc]; rfl), rfl, rfl, rfl, rfl, rfl, rfl, rfl, rfl, rfl, trivial⟩ rfl⟩
      · omega
      · omega
    · intro hc1
      try simp only [bs] at hc1
      refine f_exit ?_
      show AWs _ _ _ _ _
      refine f_seq ?_
      obtain rfl : j = k := by omega
      refine f_region ?_
      refine scons (CStep.step (PStep.c (p_move (y := .val _) rfl (Sees.of rfl) rfl)) rfl rfl rfl rfl) ?_
      refine scons (CStep.step (PStep.c (p_assign (y := .val _) rfl (Sees.of rfl) rfl)) rfl rfl rfl rfl) ?_
      refine snil ?_
      refine f_ret ?_
      refine endsB_ret (resB_eq (resB_tmp rfl rfl (Sees.of rfl)) ?_) ⟨rfl, rfl, (by rw [hlr]; rfl), rfl, rfl, rfl, rfl, rfl, trivial⟩ rfl
      rfl

theorem learn_spec (n : Nat) (asked : List Int) (ph : Bool) (ul us uT uL uW uM : Nat) (s : Sp.Sr) (c : List Int) (hc : c.length ≤ 10000) (hs : s.st.length ≤ 100000) (hl : s.cl.length ≤ 100000) :
    SpecB Go.Proofs.Tryz.prog 39 [.ref 30000 0 0, .val (ints c)] [(30000, .box 0 (.ccons (iv n) (.ccons (.val (ints asked)) (.ccons (bv ph) (.ccons (.ref 30010 uT 0) (.ccons (.row 30001 ul) (.ccons (iv (s.k)) (.ccons (.row 30002 us) .cnil)))))))), (30001, .arr ul 3 1 8 di 0 (s.lv)), (30002, .arr us 54 9 120 dStp (0, []) (lrn (s.st))), (30010, .box uT (.ccons (.val (intss (s.cl))) (.ccons (.row 30011 uL) (.ccons (.row 30012 uW) (.ccons (.row 30013 uM) .cnil))))), (30011, .arr uL 3 1 8 di 0 (s.L)), (30012, .arr uW 3 1 8 di 0 (s.W)), (30013, .mp uM vInt Value.bool (Sp.vmap (s.L)))] (.tup .nil) [(30000, .box 0 (.ccons (iv n) (.ccons (.val (ints asked)) (.ccons (bv ph) (.ccons (.ref 30010 uT 0) (.ccons (.row 30001 ul) (.ccons (iv (((s.learn c)).k)) (.ccons (.row 30002 (us + 1)) .cnil)))))))), (30001, .arr ul 3 1 8 di 0 (((s.learn c)).lv)), (30002, .arr (us + 1) 54 9 120 dStp (0, []) (lrn (((s.learn c)).st))), (30010, .box uT (.ccons (.val (intss (((s.learn c)).cl))) (.ccons (.row 30011 uL) (.ccons (.row 30012 uW) (.ccons (.row 30013 uM) .cnil))))), (30011, .arr uL 3 1 8 di 0 (((s.learn c)).L)), (30012, .arr uW 3 1 8 di 0 (((s.learn c)).W)), (30013, .mp uM vInt Value.bool (Sp.vmap (((s.learn c)).L)))] := by
  refine specB_of' Go.Proofs.Tryz.func39 rfl Go.Proofs.Tryz.ntmps39 rfl rfl rfl ?_
  refine f_seq ?_
  have hsl : (lrn s.st).length = s.st.length := List.length_map _
  refine f_draw wCd2_mix (by kernel_rfl) ?_
  refine dcons (CStep.step (PStep.c (p_move (y := .ref _ _ _) rfl (Sees.of rfl) rfl)) rfl rfl rfl rfl) ?_
  refine dcons (CStep.step (PStep.c (p_move (y := .ref _ _ _) rfl (Sees.of rfl) rfl)) rfl rfl rfl rfl) ?_
  refine dcons (CStep.step (PStep.c (p_nilRef rfl (Sees.of rfl) rfl)) rfl rfl rfl rfl) ?_
  refine dcons (CStep.step (PStep.c (p_fieldRef rfl wCd2_fld94_6 wCd2_siz34 rfl (Sees.of rfl) rfl)) rfl rfl rfl rfl) ?_
  refine dcons (CStep.step (PStep.c (p_loadB (y := .row _ _) rfl wCd2_agg34 (Sees.of rfl) rfl rfl rfl rfl)) rfl rfl rfl rfl) ?_
  refine dcons (CStep.step (PStep.c (p_move (y := .val _) rfl (Sees.of rfl) rfl)) rfl rfl rfl rfl) ?_
  refine dcons (CStep.step (c_call rfl wCd2_isf77 ⟨_, _, rfl, (Sees.of rfl), rfl, rfl⟩ ((cloneI_spec c (by omega)).spec 0)) rfl rfl rfl rfl) ?_
  refine dcons (CStep.step (PStep.c (p_build rfl wCd2_plc54 wCd2_zer54 (by decide) wCd2_zch54 ⟨_, _, _, rfl, rfl, rfl, (Sees.of rfl), ⟨_, _, _, rfl, rfl, rfl, (Sees.of rfl), rfl⟩⟩ rfl)) rfl rfl rfl rfl) ?_
  refine dcons (CStep.step (c_buildSlice (f := dStp) (za := (0, [])) (xs := [.tmp 11]) rfl rfl wCd2_isl34 wCd2_siz54 wCd2_zer54 rfl rfl ⟨(_, _), _, rfl, (Sees.of rfl), rfl, rfl, rfl⟩) rfl rfl rfl rfl) ?_
  refine dcons (r_appendR (ob := 30002) rfl wCd2_isl34 wCd2_siz54 wCd2_byt54 wCd2_zer54 rfl rfl (Sees.of rfl) rfl (Sees.of rfl) (by simp only [List.length_cons, List.length_nil, List.length_append]; omega) (by simp only [List.length_cons, List.length_nil, List.length_append]; omega) rfl rfl rfl rfl rfl) ?_
  refine dcons (CStep.step (PStep.c (p_nilRef rfl (Sees.of rfl) rfl)) rfl rfl rfl rfl) ?_
  refine dcons (CStep.step (PStep.c (p_fieldRef rfl wCd2_fld94_6 wCd2_siz34 rfl (Sees.of rfl) rfl)) rfl rfl rfl rfl) ?_
  refine dcons (r_storeR rfl wCd2_siz34 rfl rfl rfl (Sees.of rfl) rfl rfl (Sees.of rfl) rfl) ?_
  refine dnil (by kernel_rfl) ?_
  refine f_draw wCd2_mix (by kernel_rfl) ?_
  refine dcons (CStep.step (PStep.c (p_move (y := .ref _ _ _) rfl (Sees.of rfl) rfl)) rfl rfl rfl rfl) ?_
  refine dcons (CStep.step (PStep.c (p_nilRef rfl (Sees.of rfl) rfl)) rfl rfl rfl rfl) ?_
  refine dcons (CStep.step (PStep.c (p_fieldRef rfl wCd2_fld94_3 wCd2_siz91 rfl (Sees.of rfl) rfl)) rfl rfl rfl rfl) ?_
  refine dcons (CStep.step (PStep.c (p_loadB (y := .ref _ _ _) rfl wCd2_agg91 (Sees.of rfl) rfl rfl rfl rfl)) rfl rfl rfl rfl) ?_
  refine dcons (CStep.step (PStep.c (p_move (y := .ref _ _ _) rfl (Sees.of rfl) rfl)) rfl rfl rfl rfl) ?_
  refine dcons (CStep.step (PStep.c (p_nilRef rfl (Sees.of rfl) rfl)) rfl rfl rfl rfl) ?_
  refine dcons (CStep.step (PStep.c (p_fieldRef rfl wCd2_fld94_3 wCd2_siz91 rfl (Sees.of rfl) rfl)) rfl rfl rfl rfl) ?_
  refine dcons (CStep.step (PStep.c (p_loadB (y := .ref _ _ _) rfl wCd2_agg91 (Sees.of rfl) rfl rfl rfl rfl)) rfl rfl rfl rfl) ?_
  refine dcons (CStep.step (PStep.c (p_nilRef rfl (Sees.of rfl) rfl)) rfl rfl rfl rfl) ?_
  refine dcons (CStep.step (PStep.c (p_fieldRef rfl wCd2_fld106_0 wCd2_siz23 rfl (Sees.of rfl) rfl)) rfl rfl rfl rfl) ?_
  refine dcons (CStep.step (PStep.c (p_loadB (y := .val _) rfl wCd2_agg23 (Sees.of rfl) rfl rfl rfl rfl)) rfl rfl rfl rfl) ?_
  refine dcons (CStep.step (c_call rfl wCd2_isf32 ⟨_, _, rfl, (Sees.of rfl), rfl, rfl⟩ (clipC_spec s.cl)) rfl rfl rfl rfl) ?_
  refine dcons (CStep.step (PStep.c (p_move (y := .val _) rfl (Sees.of rfl) rfl)) rfl rfl rfl rfl) ?_
  refine dcons (CStep.step (c_call rfl wCd2_isf77 ⟨_, _, rfl, (Sees.of rfl), rfl, rfl⟩ ((cloneI_spec c (by omega)).spec 0)) rfl rfl rfl rfl) ?_
  refine dcons (CStep.step (c_buildSlice (f := ints) (za := []) (xs := [.tmp 29]) rfl rfl wCd2_isl23 wCd2_siz22 wCd2_zer22 rfl rfl ⟨_, _, rfl, (Sees.of rfl), rfl, rfl, rfl⟩) rfl rfl rfl rfl) ?_
  refine dcons (r_appendC (ob := 10031) rfl wCd2_isl23 wCd2_siz22 wCd2_byt22 wCd2_zer22 rfl rfl (Sees.of rfl) (Sees.of rfl) (by simp only [List.length_cons, List.length_nil, List.length_append]; omega) (by simp only [List.length_cons, List.length_nil, List.length_append]; omega) (by simp) rfl rfl rfl rfl rfl) ?_
  refine dcons (CStep.step (PStep.c (p_nilRef rfl (Sees.of rfl) rfl)) rfl rfl rfl rfl) ?_
  refine dcons (CStep.step (PStep.c (p_fieldRef rfl wCd2_fld106_0 wCd2_siz23 rfl (Sees.of rfl) rfl)) rfl rfl rfl rfl) ?_
  refine dcons (LStep.pre (g_freeze (k := 31) (o1 := 10031) rfl rfl rfl rfl) (r_store rfl wCd2_siz23 rfl rfl rfl (Sees.of rfl) rfl rfl (Sees.of rfl) (one_val rfl))) ?_
  refine dnil (by kernel_rfl) ?_
  refine endsB_end (resB_eq (resB_none rfl) ?_) ⟨rfl, rfl, rfl, (by rw [show lrn (s.learn c).st = lrn s.st ++ [(1, c)] from List.map_append ..]; rfl), rfl, rfl, rfl, rfl, trivial⟩ rfl
  rfl

theorem no_spec (n : Nat) (asked : List Int) (ph : Bool) (ul us uT uL uW uM : Nat) (s : Sp.Sr) (core : List Int) (used : Int) (hF : Sp.Fine core) (hc : core.length ≤ 10000) (hs : s.st.length ≤ 100000) :
    SpecB Go.Proofs.Tryz.prog 37 [.ref 30000 0 0, .val (ints core), iv used] [(30000, .box 0 (.ccons (iv n) (.ccons (.val (ints asked)) (.ccons (bv ph) (.ccons (.ref 30010 uT 0) (.ccons (.row 30001 ul) (.ccons (iv (s.k)) (.ccons (.row 30002 us) .cnil)))))))), (30001, .arr ul 3 1 8 di 0 (s.lv)), (30002, .arr us 54 9 120 dStp (0, []) (lrn (s.st))), (30010, .box uT (.ccons (.val (intss (s.cl))) (.ccons (.row 30011 uL) (.ccons (.row 30012 uW) (.ccons (.row 30013 uM) .cnil))))), (30011, .arr uL 3 1 8 di 0 (s.L)), (30012, .arr uW 3 1 8 di 0 (s.W)), (30013, .mp uM vInt Value.bool (Sp.vmap (s.L)))] (ans 2 [] (lrn (s.st ++ [core.map fun x => -x])) core used) [(30000, .box 0 (.ccons (iv n) (.ccons (.val (ints asked)) (.ccons (bv ph) (.ccons (.ref 30010 uT 0) (.ccons (.row 30001 ul) (.ccons (iv (s.k)) (.ccons (.row 30002 (us + 1)) .cnil)))))))), (30001, .arr ul 3 1 8 di 0 (s.lv)), (30002, .dead (us + 1)), (30010, .box uT (.ccons (.val (intss (s.cl))) (.ccons (.row 30011 uL) (.ccons (.row 30012 uW) (.ccons (.row 30013 uM) .cnil))))), (30011, .arr uL 3 1 8 di 0 (s.L)), (30012, .arr uW 3 1 8 di 0 (s.W)), (30013, .mp uM vInt Value.bool (Sp.vmap (s.L)))] := by
  refine specB_of' Go.Proofs.Tryz.func37 rfl Go.Proofs.Tryz.ntmps37 rfl rfl rfl ?_
  refine f_seq ?_
  have hsl : (lrn s.st).length = s.st.length := List.length_map _
  refine f_region ?_
  refine scons (r_alloc (ob := 10006) rfl wCd2_zer36 rfl rfl rfl rfl rfl rfl) ?_
  refine snil ?_
  refine f_seq ?_
  refine f_draw wCd2_mix (by kernel_rfl) ?_
  refine dcons (CStep.step (PStep.c (p_move (y := .ref _ _ _) rfl (Sees.of rfl) rfl)) rfl rfl rfl rfl) ?_
  refine dcons (CStep.step (PStep.c (p_move (y := .ref _ _ _) rfl (Sees.of rfl) rfl)) rfl rfl rfl rfl) ?_
  refine dcons (CStep.step (PStep.c (p_nilRef rfl (Sees.of rfl) rfl)) rfl rfl rfl rfl) ?_
  refine dcons (CStep.step (PStep.c (p_fieldRef rfl wCd2_fld94_6 wCd2_siz34 rfl (Sees.of rfl) rfl)) rfl rfl rfl rfl) ?_
  refine dcons (CStep.step (PStep.c (p_loadB (y := .row _ _) rfl wCd2_agg34 (Sees.of rfl) rfl rfl rfl rfl)) rfl rfl rfl rfl) ?_
  refine dcons (CStep.step (PStep.c (p_move (y := .val _) rfl (Sees.of rfl) rfl)) rfl rfl rfl rfl) ?_
  refine dcons (CStep.step (c_call rfl wCd2_isf76 ⟨_, _, rfl, (Sees.of rfl), rfl, rfl⟩ (Negated_spec core hF (by omega))) rfl rfl rfl rfl) ?_
  refine dcons (CStep.step (PStep.c (p_build rfl wCd2_plc54 wCd2_zer54 (by decide) wCd2_zch54 ⟨_, _, _, rfl, rfl, rfl, (Sees.of rfl), ⟨_, _, _, rfl, rfl, rfl, (Sees.of rfl), rfl⟩⟩ rfl)) rfl rfl rfl rfl) ?_
  refine dcons (CStep.step (c_buildSlice (f := dStp) (za := (0, [])) (xs := [.tmp 14]) rfl rfl wCd2_isl34 wCd2_siz54 wCd2_zer54 rfl rfl ⟨(_, _), _, rfl, (Sees.of rfl), rfl, rfl, rfl⟩) rfl rfl rfl rfl) ?_
  refine dcons (r_appendR (ob := 30002) rfl wCd2_isl34 wCd2_siz54 wCd2_byt54 wCd2_zer54 rfl rfl (Sees.of rfl) rfl (Sees.of rfl) (by simp only [List.length_cons, List.length_nil, List.length_append]; omega) (by simp only [List.length_cons, List.length_nil, List.length_append]; omega) rfl rfl rfl rfl rfl) ?_
  refine dcons (CStep.step (PStep.c (p_nilRef rfl (Sees.of rfl) rfl)) rfl rfl rfl rfl) ?_
  refine dcons (CStep.step (PStep.c (p_fieldRef rfl wCd2_fld94_6 wCd2_siz34 rfl (Sees.of rfl) rfl)) rfl rfl rfl rfl) ?_
  refine dcons (r_storeR rfl wCd2_siz34 rfl rfl rfl (Sees.of rfl) rfl rfl (Sees.of rfl) rfl) ?_
  refine dnil (by kernel_rfl) ?_
  refine f_seq ?_
  refine f_region ?_
  refine scons (CStep.step (PStep.c (p_move (y := .ref _ _ _) rfl (Sees.of rfl) rfl)) rfl rfl rfl rfl) ?_
  refine scons (CStep.step (PStep.c (p_nilRef rfl (Sees.of rfl) rfl)) rfl rfl rfl rfl) ?_
  refine scons (CStep.step (PStep.c (p_fieldRef rfl wCd2_fld94_6 wCd2_siz34 rfl (Sees.of rfl) rfl)) rfl rfl rfl rfl) ?_
  refine scons (CStep.step (PStep.c (p_loadB (y := .row _ _) rfl wCd2_agg34 (Sees.of rfl) rfl rfl rfl rfl)) rfl rfl rfl rfl) ?_
  refine scons (CStep.step (PStep.c (p_move (y := .val _) rfl (Sees.of rfl) rfl)) rfl rfl rfl rfl) ?_
  refine scons (CStep.step (PStep.c (p_move (y := .val _) rfl (Sees.of rfl) rfl)) rfl rfl rfl rfl) ?_
  refine scons (LStep.pre (g_freeze (k := 22) (o1 := 30002) rfl rfl rfl rfl) (CStep.step (PStep.c (p_build rfl wCd2_plc36 wCd2_zer36 (by decide) wCd2_zch36 ⟨_, _, _, rfl, rfl, rfl, (Sees.of rfl), ⟨_, _, _, rfl, rfl, rfl, (Sees.of rfl), ⟨_, _, _, rfl, rfl, rfl, (Sees.of rfl), ⟨_, _, _, rfl, rfl, rfl, (Sees.of rfl), rfl⟩⟩⟩⟩ rfl)) rfl rfl rfl rfl)) ?_
  refine scons (r_storeS rfl wCd2_siz36 rfl rfl rfl (Sees.of rfl) rfl (Sees.of rfl) rfl rfl rfl rfl) ?_
  refine snil ?_
  refine f_ret ?_
  refine endsB_ret (resB_eq (resB1 rfl (resB1_cell (by rfl) rfl rfl wCd2_agg36 wCd2_siz36 rfl rfl)) ?_) ⟨rfl, rfl, rfl, rfl, rfl, rfl, rfl, rfl, trivial⟩ rfl
  rw [show lrn (s.st ++ [core.map fun x => -x]) = lrn s.st ++ [(1, core.map fun x => -x)] from List.map_append ..]
  rfl

theorem decide_spec (n : Nat) (asked : List Int) (ph : Bool) (ul us uT uL uW uM : Nat) (s : Sp.Sr) (e : Nat) (s2 : Sp.Sr) (r : Bool × Int) (hI : Sp.Inv n s) (hn : n ≤ 120) (hz : ∀ x ∈ asked, x ≠ 0 ∧ -1000000000 ≤ x ∧ x ≤ 1000000000) (hal : asked.length ≤ 1000000) (hc : s.cl.length ≤ 2500) (hk : s.k ≤ 1000000) (hres : Sp.Dec n asked ph s e s2 r) :
    SpecB Go.Proofs.Tryz.prog 41 [.ref 30000 0 0] [(30000, .box 0 (.ccons (iv n) (.ccons (.val (ints asked)) (.ccons (bv ph) (.ccons (.ref 30010 uT 0) (.ccons (.row 30001 ul) (.ccons (iv (s.k)) (.ccons (.row 30002 us) .cnil)))))))), (30001, .arr ul 3 1 8 di 0 (s.lv)), (30002, .arr us 54 9 120 dStp (0, []) (lrn (s.st))), (30010, .box uT (.ccons (.val (intss (s.cl))) (.ccons (.row 30011 uL) (.ccons (.row 30012 uW) (.ccons (.row 30013 uM) .cnil))))), (30011, .arr uL 3 1 8 di 0 (s.L)), (30012, .arr uW 3 1 8 di 0 (s.W)), (30013, .mp uM vInt Value.bool (Sp.vmap (s.L)))] (two (D.bool r.1) (di r.2)) [(30000, .box 0 (.ccons (iv n) (.ccons (.val (ints asked)) (.ccons (bv ph) (.ccons (.ref 30010 uT 0) (.ccons (.row 30001 (ul + e)) (.ccons (iv (s2.k)) (.ccons (.row 30002 us) .cnil)))))))), (30001, .arr (ul + e) 3 1 8 di 0 (s2.lv)), (30002, .arr us 54 9 120 dStp (0, []) (lrn (s2.st))), (30010, .box uT (.ccons (.val (intss (s2.cl))) (.ccons (.row 30011 (uL + e)) (.ccons (.row 30012 (uW + e)) (.ccons (.row 30013 uM) .cnil))))), (30011, .arr (uL + e) 3 1 8 di 0 (s2.L)), (30012, .arr (uW + e) 3 1 8 di 0 (s2.W)), (30013, .mp uM vInt Value.bool (Sp.vmap (s2.L)))] := by
  refine specB_of' Go.Proofs.Tryz.func41 rfl Go.Proofs.Tryz.ntmps41 rfl rfl rfl ?_
  refine f_seq ?_
  refine f_region ?_
  refine scons (CStep.step (PStep.c (p_assign (y := .val _) rfl (Sees.of rfl) rfl)) rfl rfl rfl rfl) ?_
  refine scons (CStep.step (PStep.c (p_assign (y := .val _) rfl (Sees.of rfl) rfl)) rfl rfl rfl rfl) ?_
  refine snil ?_
  refine f_seq ?_
  have hll := hI.ll
  have hlw := hI.lw
  have hk0 := hI.k0
  have hrm := (hI.room hn hc).2.1
  refine f_region ?_
  refine scons (CStep.step (PStep.c (p_assign (y := .val _) rfl (Sees.of rfl) rfl)) rfl rfl rfl rfl) ?_
  refine snil ?_
  refine f_seq ?_
  refine f_seq ?_
  refine f_region ?_
  refine scons (CStep.step (PStep.c (p_move (y := .ref _ _ _) rfl (Sees.of rfl) rfl)) rfl rfl rfl rfl) ?_
  refine scons (CStep.step (PStep.c (p_nilRef rfl (Sees.of rfl) rfl)) rfl rfl rfl rfl) ?_
  refine scons (CStep.step (PStep.c (p_fieldRef rfl wCd2_fld94_1 wCd2_siz22 rfl (Sees.of rfl) rfl)) rfl rfl rfl rfl) ?_
  refine scons (CStep.step (PStep.c (p_loadB (y := .val _) rfl wCd2_agg22 (Sees.of rfl) rfl rfl rfl rfl)) rfl rfl rfl rfl) ?_
  refine scons (CStep.step (PStep.c (p_len rfl wCd2_isl22 (Sees.of rfl))) rfl rfl rfl rfl) ?_
  refine scons (CStep.step (PStep.c (p_move (y := .val _) rfl (Sees.of rfl) rfl)) rfl rfl rfl rfl) ?_
  refine snil ?_
  refine f_block ?_
  refine f_loop (α := Nat) (fun i => i ≤ asked.length ∧ ∀ x ∈ asked.take i, -x ∉ s.L) (fun i => [(30000, .box 0 (.ccons (iv n) (.ccons (.val (ints asked)) (.ccons (bv ph) (.ccons (.ref 30010 uT 0) (.ccons (.row 30001 ul) (.ccons (iv (s.k)) (.ccons (.row 30002 us) .cnil)))))))), (30001, .arr ul 3 1 8 di 0 (s.lv)), (30002, .arr us 54 9 120 dStp (0, []) (lrn (s.st))), (30010, .box uT (.ccons (.val (intss (s.cl))) (.ccons (.row 30011 uL) (.ccons (.row 30012 uW) (.ccons (.row 30013 uM) .cnil))))), (30011, .arr uL 3 1 8 di 0 (s.L)), (30012, .arr uW 3 1 8 di 0 (s.W)), (30013, .mp uM vInt Value.bool (Sp.vmap (s.L))), (13, iv i), (11, .val (ints asked)), (12, iv asked.length), (4, iv (Sp.openAT s.L asked i)), (29999, .clo 0 (.ccons (.ref 30000 0 0) (.ccons (.row 30000 0) (.ccons (.row 30001 ul) (.ccons (.row 30002 us) (.ccons (.ref 30010 uT 0) (.ccons (.row 30010 uT) (.ccons (.row 30011 uL) (.ccons (.row 30012 uW) (.ccons (.ref 30013 uM 0) (.ccons (.row 30013 uM) .cnil))))))))))), (0, .ref 30000 0 0)]) (fun i => asked.length - i) 0 ?_ ?_ ?_
  · exact ⟨Nat.zero_le _, by simp⟩
  · exact le_ofL ⟨rfl, rfl, rfl, rfl, rfl, rfl, rfl, rfl, rfl, rfl, (by rw [Sp.openAT_nil]; rfl), rfl, rfl, trivial⟩ rfl
  · rintro i ⟨hi, hp⟩
    refine f_seq ?_
    refine f_region ?_
    refine scons (CStep.step (PStep.c (p_lss rfl (Sees.of rfl) (Sees.of rfl))) rfl rfl rfl rfl) ?_
    refine snil ?_
    refine f_seq ?_
    refine f_cond rfl ?_ ?_
    · intro hc1
      try simp only [bs] at hc1
      refine f_skip ?_
      refine f_seq ?_
      refine f_block ?_
      refine f_seq ?_
      have hx := (hz _ (Sp.getD_mem asked i 0 (by omega)))
      refine f_region ?_
      refine scons (CStep.step (PStep.c ((by first | exact p_indexN rfl wCd2_isl22 wCd2_siz3 (Sees.of rfl) (Sees.of rfl) (by omega) | exact p_index rfl wCd2_isl22 wCd2_siz3 (Sees.of rfl) (Sees.of rfl) (by omega) (by omega)))) rfl rfl rfl rfl) ?_
      refine scons (CStep.step (PStep.c (p_load rfl wCd2_agg3 (Sees.of rfl) rfl)) rfl rfl rfl rfl) ?_
      refine scons (CStep.step (PStep.c (p_assign (y := .val _) rfl (Sees.of rfl) rfl)) rfl rfl rfl rfl) ?_
      refine snil ?_
      refine f_seq ?_
      refine f_seq ?_
      refine f_region ?_
      refine scons (CStep.step (PStep.c (p_move (y := .ref _ _ _) rfl (Sees.of rfl) rfl)) rfl rfl rfl rfl) ?_
      refine scons (CStep.step (PStep.c (p_nilRef rfl (Sees.of rfl) rfl)) rfl rfl rfl rfl) ?_
      refine scons (CStep.step (PStep.c (p_fieldRef rfl wCd2_fld94_3 wCd2_siz91 rfl (Sees.of rfl) rfl)) rfl rfl rfl rfl) ?_
      refine scons (CStep.step (PStep.c (p_loadB (y := .ref _ _ _) rfl wCd2_agg91 (Sees.of rfl) rfl rfl rfl rfl)) rfl rfl rfl rfl) ?_
      refine scons (CStep.step (PStep.c (p_move (y := .val _) rfl (Sees.of rfl) rfl)) rfl rfl rfl rfl) ?_
      refine scons (CStep.step (PStep.c (p_neg rfl (Sees.of rfl) (by omega))) rfl rfl rfl rfl) ?_
      refine scons (r_callB rfl wCd2_isf84 (Has_spec uT uL uW uM s.cl s.L s.W (-(asked.getD i 0))) ⟨_, _, rfl, (Sees.of rfl), ⟨_, _, rfl, (Sees.of rfl), rfl⟩⟩ ⟨rfl, rfl, rfl, rfl, trivial⟩ rfl rfl rfl rfl rfl rfl) ?_
      refine snil ?_
      refine f_cond rfl ?_ ?_
      · intro hc2
        try simp only [bs] at hc2
        refine f_seq ?_
        refine f_region ?_
        refine scons (CStep.step (PStep.c (p_move (y := .val _) rfl (Sees.of rfl) rfl)) rfl rfl rfl rfl) ?_
        refine scons (CStep.step (PStep.c (p_assign (y := .val _) rfl (Sees.of rfl) rfl)) rfl rfl rfl rfl) ?_
        refine scons (CStep.step (PStep.c (p_assign (y := .val _) rfl (Sees.of rfl) rfl)) rfl rfl rfl rfl) ?_
        refine snil ?_
        refine f_ret ?_
        have hde : Sp.denied s.L asked = (asked.getD i 0) := Sp.denied_at (by omega) hp (by simpa using hc2)
        obtain ⟨rfl, rfl, rfl⟩ := hres.1 (by rw [hde]; exact hx.1)
        refine endsB_ret (resB_eq (resB2 rfl (resB1_tmp rfl (Sees.of rfl)) (resB1_tmp rfl (Sees.of rfl))) ?_) ⟨rfl, rfl, rfl, rfl, rfl, rfl, rfl, rfl, trivial⟩ rfl
        rw [hde]
      · intro hc2
        try simp only [bs] at hc2
        refine f_skip ?_
        refine f_seq ?_
        refine f_region ?_
        refine scons (CStep.step (PStep.c (p_move (y := .val _) rfl (Sees.of rfl) rfl)) rfl rfl rfl rfl) ?_
        refine scons (CStep.step (PStep.c (p_eql rfl (Sees.of rfl) (Sees.of rfl))) rfl rfl rfl rfl) ?_
        refine scons (CStep.step (PStep.c (p_move (y := .val _) rfl (Sees.of rfl) rfl)) rfl rfl rfl rfl) ?_
        rcases Bool.eq_false_or_eq_true ((decide ((Sp.openAT s.L asked i) = 0))) with hq1 | hq1
        · skip
          refine scons (LStep.gtrue rfl rfl rfl rfl rfl (by first | exact hq1 | simp only [hq1, Bool.not_true, Bool.not_false] | simp [hq1]) (CStep.step (PStep.c (p_move (y := .ref _ _ _) rfl (Sees.of rfl) rfl)) rfl rfl rfl rfl)) ?_
          refine scons (LStep.gtrue rfl rfl rfl rfl rfl (by first | exact hq1 | simp only [hq1, Bool.not_true, Bool.not_false] | simp [hq1]) (CStep.step (PStep.c (p_nilRef rfl (Sees.of rfl) rfl)) rfl rfl rfl rfl)) ?_
          refine scons (LStep.gtrue rfl rfl rfl rfl rfl (by first | exact hq1 | simp only [hq1, Bool.not_true, Bool.not_false] | simp [hq1]) (CStep.step (PStep.c (p_fieldRef rfl wCd2_fld94_3 wCd2_siz91 rfl (Sees.of rfl) rfl)) rfl rfl rfl rfl)) ?_
          refine scons (LStep.gtrue rfl rfl rfl rfl rfl (by first | exact hq1 | simp only [hq1, Bool.not_true, Bool.not_false] | simp [hq1]) (CStep.step (PStep.c (p_loadB (y := .ref _ _ _) rfl wCd2_agg91 (Sees.of rfl) rfl rfl rfl rfl)) rfl rfl rfl rfl)) ?_
          refine scons (LStep.gtrue rfl rfl rfl rfl rfl (by first | exact hq1 | simp only [hq1, Bool.not_true, Bool.not_false] | simp [hq1]) (CStep.step (PStep.c (p_move (y := .val _) rfl (Sees.of rfl) rfl)) rfl rfl rfl rfl)) ?_
          refine scons (LStep.gtrue rfl rfl rfl rfl rfl (by first | exact hq1 | simp only [hq1, Bool.not_true, Bool.not_false] | simp [hq1]) (r_callB rfl wCd2_isf84 (Has_spec uT uL uW uM s.cl s.L s.W (asked.getD i 0)) ⟨_, _, rfl, (Sees.of rfl), ⟨_, _, rfl, (Sees.of rfl), rfl⟩⟩ ⟨rfl, rfl, rfl, rfl, trivial⟩ rfl rfl rfl rfl rfl rfl)) ?_
          refine scons (LStep.gtrue rfl rfl rfl rfl rfl (by first | exact hq1 | simp only [hq1, Bool.not_true, Bool.not_false] | simp [hq1]) (CStep.step (PStep.c (p_not rfl (Sees.of rfl))) rfl rfl rfl rfl)) ?_
          refine scons (CStep.step (PStep.c (p_and rfl (Sees.of rfl) (fun _ => (Sees.of rfl)) (Sees.of rfl))) rfl rfl rfl rfl) ?_
          refine snil ?_
          refine f_cond rfl ?_ ?_
          · intro hc3
            try simp only [bs] at hc3
            refine f_region ?_
            refine scons (CStep.step (PStep.c (p_move (y := .val _) rfl (Sees.of rfl) rfl)) rfl rfl rfl rfl) ?_
            refine scons (CStep.step (PStep.c (p_assign (y := .val _) rfl (Sees.of rfl) rfl)) rfl rfl rfl rfl) ?_
            refine snil ?_
            refine f_nil ?_
            show AWs _ _ _ _ _
            refine f_region ?_
            refine scons (CStep.step (PStep.c (p_add rfl (Sees.of rfl) (Sees.of rfl) (by omega))) rfl rfl rfl rfl) ?_
            refine scons (CStep.step (PStep.c (p_move (y := .val _) rfl (Sees.of rfl) rfl)) rfl rfl rfl rfl) ?_
            refine snil ?_
            refine f_back ⟨i + 1, ?_, ?_, le_ofL ⟨rfl, rfl, rfl, rfl, rfl, rfl, rfl, rfl, rfl, rfl, (by rw [Sp.openAT_new (by omega) (of_decide_eq_true hq1) (fun x hx => (hz x hx).1) (by simpa using hc3.2)]; rfl), rfl, rfl, trivial⟩ rfl⟩
            · exact ⟨by omega, Sp.step_all (z := 0) (by omega) hp (by simpa using hc2)⟩
            · omega
          · intro hc3
            try simp only [bs] at hc3
            refine f_skip ?_
            refine f_nil ?_
            show AWs _ _ _ _ _
            refine f_region ?_
            refine scons (CStep.step (PStep.c (p_add rfl (Sees.of rfl) (Sees.of rfl) (by omega))) rfl rfl rfl rfl) ?_
            refine scons (CStep.step (PStep.c (p_move (y := .val _) rfl (Sees.of rfl) rfl)) rfl rfl rfl rfl) ?_
            refine snil ?_
            refine f_back ⟨i + 1, ?_, ?_, le_ofL ⟨rfl, rfl, rfl, rfl, rfl, rfl, rfl, rfl, rfl, rfl, (by rw [Sp.openAT_old (by omega) (fun h => h.2 (by simpa [h.1] using hc3)) (fun x hx => (hz x hx).1)]; rfl), rfl, rfl, trivial⟩ rfl⟩
            · exact ⟨by omega, Sp.step_all (z := 0) (by omega) hp (by simpa using hc2)⟩
            · omega
        · skip
          refine scons (LStep.gfalse rfl rfl rfl rfl rfl (by first | exact hq1 | simp only [hq1, Bool.not_true, Bool.not_false] | simp [hq1]) rfl rfl rfl) ?_
          refine scons (LStep.gfalse rfl rfl rfl rfl rfl (by first | exact hq1 | simp only [hq1, Bool.not_true, Bool.not_false] | simp [hq1]) rfl rfl rfl) ?_
          refine scons (LStep.gfalse rfl rfl rfl rfl rfl (by first | exact hq1 | simp only [hq1, Bool.not_true, Bool.not_false] | simp [hq1]) rfl rfl rfl) ?_
          refine scons (LStep.gfalse rfl rfl rfl rfl rfl (by first | exact hq1 | simp only [hq1, Bool.not_true, Bool.not_false] | simp [hq1]) rfl rfl rfl) ?_
          refine scons (LStep.gfalse rfl rfl rfl rfl rfl (by first | exact hq1 | simp only [hq1, Bool.not_true, Bool.not_false] | simp [hq1]) rfl rfl rfl) ?_
          refine scons (LStep.gfalse rfl rfl rfl rfl rfl (by first | exact hq1 | simp only [hq1, Bool.not_true, Bool.not_false] | simp [hq1]) rfl rfl rfl) ?_
          refine scons (LStep.gfalse rfl rfl rfl rfl rfl (by first | exact hq1 | simp only [hq1, Bool.not_true, Bool.not_false] | simp [hq1]) rfl rfl rfl) ?_
          refine scons (CStep.step (PStep.c (p_and (ba := false) rfl (Sees.of rfl) (fun h => absurd h (by first | simp only [hq1, Bool.not_true, Bool.not_false, Bool.true_eq_false, Bool.false_eq_true, not_false_eq_true] | simp [hq1])) (Sees.of rfl))) rfl rfl rfl rfl) ?_
          refine snil ?_
          refine f_cond rfl ?_ ?_
          · intro hc4
            try simp only [bs] at hc4
            cases hc4.2
          · intro hc4
            try simp only [bs] at hc4
            refine f_skip ?_
            refine f_nil ?_
            show AWs _ _ _ _ _
            refine f_region ?_
            refine scons (CStep.step (PStep.c (p_add rfl (Sees.of rfl) (Sees.of rfl) (by omega))) rfl rfl rfl rfl) ?_
            refine scons (CStep.step (PStep.c (p_move (y := .val _) rfl (Sees.of rfl) rfl)) rfl rfl rfl rfl) ?_
            refine snil ?_
            refine f_back ⟨i + 1, ?_, ?_, le_ofL ⟨rfl, rfl, rfl, rfl, rfl, rfl, rfl, rfl, rfl, rfl, (by rw [Sp.openAT_old (by omega) (fun h => of_decide_eq_false hq1 h.1) (fun x hx => (hz x hx).1)]; rfl), rfl, rfl, trivial⟩ rfl⟩
            · exact ⟨by omega, Sp.step_all (z := 0) (by omega) hp (by simpa using hc2)⟩
            · omega
    · intro hc1
      try simp only [bs] at hc1
      refine f_exit ?_
      show AWs _ _ _ _ _
      refine f_seq ?_
      refine f_seq ?_
      refine f_region ?_
      refine scons (CStep.step (PStep.c (p_assign (y := .val _) rfl (Sees.of rfl) rfl)) rfl rfl rfl rfl) ?_
      refine snil ?_
      refine f_block ?_
      refine f_loop (α := Nat) (fun j => j ≤ n) (fun j => [(30000, .box 0 (.ccons (iv n) (.ccons (.val (ints asked)) (.ccons (bv ph) (.ccons (.ref 30010 uT 0) (.ccons (.row 30001 ul) (.ccons (iv (s.k)) (.ccons (.row 30002 us) .cnil)))))))), (30001, .arr ul 3 1 8 di 0 (s.lv)), (30002, .arr us 54 9 120 dStp (0, []) (lrn (s.st))), (30010, .box uT (.ccons (.val (intss (s.cl))) (.ccons (.row 30011 uL) (.ccons (.row 30012 uW) (.ccons (.row 30013 uM) .cnil))))), (30011, .arr uL 3 1 8 di 0 (s.L)), (30012, .arr uW 3 1 8 di 0 (s.W)), (30013, .mp uM vInt Value.bool (Sp.vmap (s.L))), (7, iv ((j : Int) + 1)), (4, iv (Sp.nextL ph s.L asked j)), (29999, .clo 0 (.ccons (.ref 30000 0 0) (.ccons (.row 30000 0) (.ccons (.row 30001 ul) (.ccons (.row 30002 us) (.ccons (.ref 30010 uT 0) (.ccons (.row 30010 uT) (.ccons (.row 30011 uL) (.ccons (.row 30012 uW) (.ccons (.ref 30013 uM 0) (.ccons (.row 30013 uM) .cnil))))))))))), (0, .ref 30000 0 0)]) (fun j => n - j) 0 ?_ ?_ ?_
      · exact Nat.zero_le _
      · exact le_ofL ⟨rfl, rfl, rfl, rfl, rfl, rfl, rfl, rfl, (by rw [Sp.nextL_nil, ← Sp.openAT_all (i := i) (by omega)]; rfl), rfl, rfl, trivial⟩ rfl
      · rintro j hj
        refine f_seq ?_
        refine f_seq ?_
        refine f_region ?_
        refine scons (CStep.step (PStep.c (p_move (y := .val _) rfl (Sees.of rfl) rfl)) rfl rfl rfl rfl) ?_
        refine scons (CStep.step (PStep.c (p_eql rfl (Sees.of rfl) (Sees.of rfl))) rfl rfl rfl rfl) ?_
        refine scons (CStep.step (PStep.c (p_move (y := .val _) rfl (Sees.of rfl) rfl)) rfl rfl rfl rfl) ?_
        refine scons (CStep.guard rfl rfl rfl (fun hg0 => PStep.c (p_move (y := .val _) rfl (Sees.of rfl) rfl)) rfl rfl rfl rfl rfl) ?_
        refine scons (CStep.guard rfl rfl rfl (fun hg0 => PStep.c (p_move (y := .ref _ _ _) rfl (Sees.of rfl) rfl)) rfl rfl rfl rfl rfl) ?_
        refine scons (CStep.guard rfl rfl rfl (fun hg0 => PStep.c (p_nilRef rfl (Sees.gv' rfl hg0) rfl)) rfl rfl rfl rfl rfl) ?_
        refine scons (CStep.guard rfl rfl rfl (fun hg0 => PStep.c (p_fieldRef rfl wCd2_fld94_0 wCd2_siz3 rfl (Sees.gv' rfl hg0) rfl)) rfl rfl rfl rfl rfl) ?_
        refine scons (CStep.guard rfl rfl rfl (fun hg0 => PStep.c (p_loadB (y := .val _) rfl wCd2_agg3 (Sees.gv' rfl hg0) rfl rfl rfl rfl)) rfl rfl rfl rfl rfl) ?_
        refine scons (CStep.guard rfl rfl rfl (fun hg0 => PStep.c (p_leq rfl (Sees.gv' rfl hg0) (Sees.gv' rfl hg0))) rfl rfl rfl rfl rfl) ?_
        refine scons (CStep.step (PStep.c (p_and rfl (Sees.of rfl) (fun h => Sees.gv' rfl (beq_of_eq h)) (Sees.of rfl))) rfl rfl rfl rfl) ?_
        refine snil ?_
        refine f_cond rfl ?_ ?_
        · intro hc5
          try simp only [bs] at hc5
          refine f_skip ?_
          refine f_seq ?_
          refine f_block ?_
          refine f_seq ?_
          refine f_region ?_
          refine scons (CStep.step (PStep.c (p_move (y := .ref _ _ _) rfl (Sees.of rfl) rfl)) rfl rfl rfl rfl) ?_
          refine scons (CStep.step (PStep.c (p_nilRef rfl (Sees.of rfl) rfl)) rfl rfl rfl rfl) ?_
          refine scons (CStep.step (PStep.c (p_fieldRef rfl wCd2_fld94_3 wCd2_siz91 rfl (Sees.of rfl) rfl)) rfl rfl rfl rfl) ?_
          refine scons (CStep.step (PStep.c (p_loadB (y := .ref _ _ _) rfl wCd2_agg91 (Sees.of rfl) rfl rfl rfl rfl)) rfl rfl rfl rfl) ?_
          refine scons (CStep.step (PStep.c (p_move (y := .val _) rfl (Sees.of rfl) rfl)) rfl rfl rfl rfl) ?_
          refine scons (r_callB rfl wCd2_isf84 (Has_spec uT uL uW uM s.cl s.L s.W ((j : Int) + 1)) ⟨_, _, rfl, (Sees.of rfl), ⟨_, _, rfl, (Sees.of rfl), rfl⟩⟩ ⟨rfl, rfl, rfl, rfl, trivial⟩ rfl rfl rfl rfl rfl rfl) ?_
          refine scons (CStep.step (PStep.c (p_not rfl (Sees.of rfl))) rfl rfl rfl rfl) ?_
          refine scons (CStep.step (PStep.c (p_move (y := .val _) rfl (Sees.of rfl) rfl)) rfl rfl rfl rfl) ?_
          rcases Bool.eq_false_or_eq_true ((decide ((j : Int) + 1 ∈ s.L))) with hq2 | hq2
          · skip
            refine scons (LStep.gfalse rfl rfl rfl rfl rfl (by first | exact hq2 | simp only [hq2, Bool.not_true, Bool.not_false] | simp [hq2]) rfl rfl rfl) ?_
            refine scons (LStep.gfalse rfl rfl rfl rfl rfl (by first | exact hq2 | simp only [hq2, Bool.not_true, Bool.not_false] | simp [hq2]) rfl rfl rfl) ?_
            refine scons (LStep.gfalse rfl rfl rfl rfl rfl (by first | exact hq2 | simp only [hq2, Bool.not_true, Bool.not_false] | simp [hq2]) rfl rfl rfl) ?_
            refine scons (LStep.gfalse rfl rfl rfl rfl rfl (by first | exact hq2 | simp only [hq2, Bool.not_true, Bool.not_false] | simp [hq2]) rfl rfl rfl) ?_
            refine scons (LStep.gfalse rfl rfl rfl rfl rfl (by first | exact hq2 | simp only [hq2, Bool.not_true, Bool.not_false] | simp [hq2]) rfl rfl rfl) ?_
            refine scons (LStep.gfalse rfl rfl rfl rfl rfl (by first | exact hq2 | simp only [hq2, Bool.not_true, Bool.not_false] | simp [hq2]) rfl rfl rfl) ?_
            refine scons (LStep.gfalse rfl rfl rfl rfl rfl (by first | exact hq2 | simp only [hq2, Bool.not_true, Bool.not_false] | simp [hq2]) rfl rfl rfl) ?_
            refine scons (LStep.gfalse rfl rfl rfl rfl rfl (by first | exact hq2 | simp only [hq2, Bool.not_true, Bool.not_false] | simp [hq2]) rfl rfl rfl) ?_
            refine scons (CStep.step (PStep.c (p_and (ba := false) rfl (Sees.of rfl) (fun h => absurd h (by first | simp only [hq2, Bool.not_true, Bool.not_false, Bool.true_eq_false, Bool.false_eq_true, not_false_eq_true] | simp [hq2])) (Sees.of rfl))) rfl rfl rfl rfl) ?_
            refine snil ?_
            refine f_cond rfl ?_ ?_
            · intro hc6
              try simp only [bs] at hc6
              exact absurd hc6.1 (by first | exact fun h => h (of_decide_eq_true hq2) | (intro h; cases h))
            · intro hc6
              try simp only [bs] at hc6
              refine f_skip ?_
              refine f_nil ?_
              show AWs _ _ _ _ _
              refine f_region ?_
              refine scons (CStep.step (PStep.c (p_move (y := .val _) rfl (Sees.of rfl) rfl)) rfl rfl rfl rfl) ?_
              refine scons (CStep.step (PStep.c (p_add rfl (Sees.of rfl) (Sees.of rfl) (by omega))) rfl rfl rfl rfl) ?_
              refine scons (CStep.step (PStep.c (p_assign (y := .val _) rfl (Sees.of rfl) rfl)) rfl rfl rfl rfl) ?_
              refine snil ?_
              refine f_back ⟨j + 1, ?_, ?_, le_ofL ⟨rfl, rfl, rfl, rfl, rfl, rfl, rfl, rfl, (by rw [Sp.nextL_old (by omega) (fun h => h.1 (of_decide_eq_true hq2))]; rfl), rfl, rfl, trivial⟩ rfl⟩
              · omega
              · omega
          · skip
            refine scons (LStep.gtrue rfl rfl rfl rfl rfl (by first | exact hq2 | simp only [hq2, Bool.not_true, Bool.not_false] | simp [hq2]) (CStep.step (PStep.c (p_move (y := .ref _ _ _) rfl (Sees.of rfl) rfl)) rfl rfl rfl rfl)) ?_
            refine scons (LStep.gtrue rfl rfl rfl rfl rfl (by first | exact hq2 | simp only [hq2, Bool.not_true, Bool.not_false] | simp [hq2]) (CStep.step (PStep.c (p_nilRef rfl (Sees.of rfl) rfl)) rfl rfl rfl rfl)) ?_
            refine scons (LStep.gtrue rfl rfl rfl rfl rfl (by first | exact hq2 | simp only [hq2, Bool.not_true, Bool.not_false] | simp [hq2]) (CStep.step (PStep.c (p_fieldRef rfl wCd2_fld94_3 wCd2_siz91 rfl (Sees.of rfl) rfl)) rfl rfl rfl rfl)) ?_
            refine scons (LStep.gtrue rfl rfl rfl rfl rfl (by first | exact hq2 | simp only [hq2, Bool.not_true, Bool.not_false] | simp [hq2]) (CStep.step (PStep.c (p_loadB (y := .ref _ _ _) rfl wCd2_agg91 (Sees.of rfl) rfl rfl rfl rfl)) rfl rfl rfl rfl)) ?_
            refine scons (LStep.gtrue rfl rfl rfl rfl rfl (by first | exact hq2 | simp only [hq2, Bool.not_true, Bool.not_false] | simp [hq2]) (CStep.step (PStep.c (p_move (y := .val _) rfl (Sees.of rfl) rfl)) rfl rfl rfl rfl)) ?_
            refine scons (LStep.gtrue rfl rfl rfl rfl rfl (by first | exact hq2 | simp only [hq2, Bool.not_true, Bool.not_false] | simp [hq2]) (CStep.step (PStep.c (p_neg rfl (Sees.of rfl) (by omega))) rfl rfl rfl rfl)) ?_
            refine scons (LStep.gtrue rfl rfl rfl rfl rfl (by first | exact hq2 | simp only [hq2, Bool.not_true, Bool.not_false] | simp [hq2]) (r_callB rfl wCd2_isf84 (Has_spec uT uL uW uM s.cl s.L s.W (-((j : Int) + 1))) ⟨_, _, rfl, (Sees.of rfl), ⟨_, _, rfl, (Sees.of rfl), rfl⟩⟩ ⟨rfl, rfl, rfl, rfl, trivial⟩ rfl rfl rfl rfl rfl rfl)) ?_
            refine scons (LStep.gtrue rfl rfl rfl rfl rfl (by first | exact hq2 | simp only [hq2, Bool.not_true, Bool.not_false] | simp [hq2]) (CStep.step (PStep.c (p_not rfl (Sees.of rfl))) rfl rfl rfl rfl)) ?_
            refine scons (CStep.step (PStep.c (p_and rfl (Sees.of rfl) (fun _ => (Sees.of rfl)) (Sees.of rfl))) rfl rfl rfl rfl) ?_
            refine snil ?_
            refine f_cond rfl ?_ ?_
            · intro hc7
              try simp only [bs] at hc7
              refine f_seq ?_
              refine f_region ?_
              refine scons (CStep.step (PStep.c (p_move (y := .val _) rfl (Sees.of rfl) rfl)) rfl rfl rfl rfl) ?_
              refine scons (CStep.step (PStep.c (p_neg rfl (Sees.of rfl) (by omega))) rfl rfl rfl rfl) ?_
              refine scons (CStep.step (PStep.c (p_assign (y := .val _) rfl (Sees.of rfl) rfl)) rfl rfl rfl rfl) ?_
              refine snil ?_
              refine f_seq ?_
              refine f_region ?_
              refine scons (CStep.step (PStep.c (p_move (y := .ref _ _ _) rfl (Sees.of rfl) rfl)) rfl rfl rfl rfl) ?_
              refine scons (CStep.step (PStep.c (p_nilRef rfl (Sees.of rfl) rfl)) rfl rfl rfl rfl) ?_
              refine scons (CStep.step (PStep.c (p_fieldRef rfl wCd2_fld94_2 wCd2_siz4 rfl (Sees.of rfl) rfl)) rfl rfl rfl rfl) ?_
              refine scons (CStep.step (PStep.c (p_loadB (y := .val _) rfl wCd2_agg4 (Sees.of rfl) rfl rfl rfl rfl)) rfl rfl rfl rfl) ?_
              refine snil ?_
              refine f_cond rfl ?_ ?_
              · intro hc8
                try simp only [bs] at hc8
                refine f_region ?_
                refine scons (CStep.step (PStep.c (p_move (y := .val _) rfl (Sees.of rfl) rfl)) rfl rfl rfl rfl) ?_
                refine scons (CStep.step (PStep.c (p_assign (y := .val _) rfl (Sees.of rfl) rfl)) rfl rfl rfl rfl) ?_
                refine snil ?_
                refine f_nil ?_
                show AWs _ _ _ _ _
                refine f_region ?_
                refine scons (CStep.step (PStep.c (p_move (y := .val _) rfl (Sees.of rfl) rfl)) rfl rfl rfl rfl) ?_
                refine scons (CStep.step (PStep.c (p_add rfl (Sees.of rfl) (Sees.of rfl) (by omega))) rfl rfl rfl rfl) ?_
                refine scons (CStep.step (PStep.c (p_assign (y := .val _) rfl (Sees.of rfl) rfl)) rfl rfl rfl rfl) ?_
                refine snil ?_
                refine f_back ⟨j + 1, ?_, ?_, le_ofL ⟨rfl, rfl, rfl, rfl, rfl, rfl, rfl, rfl, (by rw [Sp.nextL_new (by omega) hc7, if_pos hc8]; rfl), rfl, rfl, trivial⟩ rfl⟩
                · omega
                · omega
              · intro hc8
                try simp only [bs] at hc8
                refine f_skip ?_
                refine f_nil ?_
                show AWs _ _ _ _ _
                refine f_region ?_
                refine scons (CStep.step (PStep.c (p_move (y := .val _) rfl (Sees.of rfl) rfl)) rfl rfl rfl rfl) ?_
                refine scons (CStep.step (PStep.c (p_add rfl (Sees.of rfl) (Sees.of rfl) (by omega))) rfl rfl rfl rfl) ?_
                refine scons (CStep.step (PStep.c (p_assign (y := .val _) rfl (Sees.of rfl) rfl)) rfl rfl rfl rfl) ?_
                refine snil ?_
                refine f_back ⟨j + 1, ?_, ?_, le_ofL ⟨rfl, rfl, rfl, rfl, rfl, rfl, rfl, rfl, (by rw [Sp.nextL_new (by omega) hc7, if_neg (by rw [hc8]; decide)]; rfl), rfl, rfl, trivial⟩ rfl⟩
                · omega
                · omega
            · intro hc7
              try simp only [bs] at hc7
              refine f_skip ?_
              refine f_nil ?_
              show AWs _ _ _ _ _
              refine f_region ?_
              refine scons (CStep.step (PStep.c (p_move (y := .val _) rfl (Sees.of rfl) rfl)) rfl rfl rfl rfl) ?_
              refine scons (CStep.step (PStep.c (p_add rfl (Sees.of rfl) (Sees.of rfl) (by omega))) rfl rfl rfl rfl) ?_
              refine scons (CStep.step (PStep.c (p_assign (y := .val _) rfl (Sees.of rfl) rfl)) rfl rfl rfl rfl) ?_
              refine snil ?_
              refine f_back ⟨j + 1, ?_, ?_, le_ofL ⟨rfl, rfl, rfl, rfl, rfl, rfl, rfl, rfl, (by rw [Sp.nextL_old (by omega) (fun h => hc7.elim (fun h2 => h.1 h2) (fun h2 => h.2 h2))]; rfl), rfl, rfl, trivial⟩ rfl⟩
              · omega
              · omega
        · intro hc5
          try simp only [bs] at hc5
          have hnx : Sp.nextL ph s.L asked n = (Sp.nextL ph s.L asked j) := Sp.nextL_end (by omega) (by by_cases h : (Sp.nextL ph s.L asked j) = 0; exact .inr (by omega); exact .inl h)
          have hd0 : Sp.denied s.L asked = 0 := Sp.denied_no (i := i) (by omega) hp
          have hnb : -1000000000 ≤ (Sp.nextL ph s.L asked j) ∧ (Sp.nextL ph s.L asked j) ≤ 1000000000 := Sp.nextL_bnd hz (by omega)
          refine f_exit ?_
          show AWs _ _ _ _ _
          refine f_seq ?_
          refine f_seq ?_
          refine f_region ?_
          refine scons (CStep.step (PStep.c (p_move (y := .val _) rfl (Sees.of rfl) rfl)) rfl rfl rfl rfl) ?_
          refine scons (CStep.step (PStep.c (p_eql rfl (Sees.of rfl) (Sees.of rfl))) rfl rfl rfl rfl) ?_
          refine snil ?_
          refine f_cond rfl ?_ ?_
          · intro hc9
            try simp only [bs] at hc9
            refine f_seq ?_
            refine f_region ?_
            refine scons (CStep.step (PStep.c (p_assign (y := .val _) rfl (Sees.of rfl) rfl)) rfl rfl rfl rfl) ?_
            refine scons (CStep.step (PStep.c (p_assign (y := .val _) rfl (Sees.of rfl) rfl)) rfl rfl rfl rfl) ?_
            refine snil ?_
            refine f_ret ?_
            obtain ⟨rfl, rfl, rfl⟩ := hres.2.1 hd0 (by rw [hnx]; exact hc9)
            refine endsB_ret (resB_eq (resB2 rfl (resB1_tmp rfl (Sees.of rfl)) (resB1_tmp rfl (Sees.of rfl))) ?_) ⟨rfl, rfl, rfl, rfl, rfl, rfl, rfl, rfl, trivial⟩ rfl
            rfl
          · intro hc9
            try simp only [bs] at hc9
            refine f_skip ?_
            refine f_seq ?_
            refine f_region ?_
            refine scons (CStep.step (PStep.c (p_move (y := .ref _ _ _) rfl (Sees.of rfl) rfl)) rfl rfl rfl rfl) ?_
            refine scons (CStep.step (PStep.c (p_nilRef rfl (Sees.of rfl) rfl)) rfl rfl rfl rfl) ?_
            refine scons (CStep.step (PStep.c (p_fieldRef rfl wCd2_fld94_5 wCd2_siz3 rfl (Sees.of rfl) rfl)) rfl rfl rfl rfl) ?_
            refine scons (CStep.step (PStep.c (p_loadB (y := .val _) rfl wCd2_agg3 (Sees.of rfl) rfl rfl rfl rfl)) rfl rfl rfl rfl) ?_
            refine scons (CStep.step (PStep.c (p_add rfl (Sees.of rfl) (Sees.of rfl) (by omega))) rfl rfl rfl rfl) ?_
            refine scons (CStep.step (PStep.c (p_nilRef rfl (Sees.of rfl) rfl)) rfl rfl rfl rfl) ?_
            refine scons (CStep.step (PStep.c (p_fieldRef rfl wCd2_fld94_5 wCd2_siz3 rfl (Sees.of rfl) rfl)) rfl rfl rfl rfl) ?_
            refine scons (r_store rfl wCd2_siz3 rfl rfl rfl (Sees.of rfl) rfl rfl (Sees.of rfl) (one_val rfl)) ?_
            refine snil ?_
            refine f_seq ?_
            refine f_region ?_
            refine scons (CStep.step (PStep.c (p_move (y := .ref _ _ _) rfl (Sees.of rfl) rfl)) rfl rfl rfl rfl) ?_
            refine scons (CStep.step (PStep.c (p_nilRef rfl (Sees.of rfl) rfl)) rfl rfl rfl rfl) ?_
            refine scons (CStep.step (PStep.c (p_fieldRef rfl wCd2_fld94_3 wCd2_siz91 rfl (Sees.of rfl) rfl)) rfl rfl rfl rfl) ?_
            refine scons (CStep.step (PStep.c (p_loadB (y := .ref _ _ _) rfl wCd2_agg91 (Sees.of rfl) rfl rfl rfl rfl)) rfl rfl rfl rfl) ?_
            refine scons (CStep.step (PStep.c (p_move (y := .val _) rfl (Sees.of rfl) rfl)) rfl rfl rfl rfl) ?_
            refine scons (r_callB rfl wCd2_isf83 (Add_spec uT uL uW uM s.cl s.L s.W (Sp.nextL ph s.L asked j) (-1) (by omega) (by omega)) ⟨_, _, rfl, (Sees.of rfl), ⟨_, _, rfl, (Sees.of rfl), ⟨_, _, rfl, (Sees.of rfl), rfl⟩⟩⟩ ⟨rfl, rfl, rfl, rfl, trivial⟩ rfl rfl rfl rfl rfl rfl) ?_
            refine snil ?_
            refine f_seq ?_
            refine f_draw wCd2_mix (by kernel_rfl) ?_
            refine dcons (CStep.step (PStep.c (p_move (y := .ref _ _ _) rfl (Sees.of rfl) rfl)) rfl rfl rfl rfl) ?_
            refine dcons (CStep.step (PStep.c (p_move (y := .ref _ _ _) rfl (Sees.of rfl) rfl)) rfl rfl rfl rfl) ?_
            refine dcons (CStep.step (PStep.c (p_nilRef rfl (Sees.of rfl) rfl)) rfl rfl rfl rfl) ?_
            refine dcons (CStep.step (PStep.c (p_fieldRef rfl wCd2_fld94_4 wCd2_siz22 rfl (Sees.of rfl) rfl)) rfl rfl rfl rfl) ?_
            refine dcons (CStep.step (PStep.c (p_loadB (y := .row _ _) rfl wCd2_agg22 (Sees.of rfl) rfl rfl rfl rfl)) rfl rfl rfl rfl) ?_
            refine dcons (CStep.step (PStep.c (p_move (y := .ref _ _ _) rfl (Sees.of rfl) rfl)) rfl rfl rfl rfl) ?_
            refine dcons (CStep.step (PStep.c (p_nilRef rfl (Sees.of rfl) rfl)) rfl rfl rfl rfl) ?_
            refine dcons (CStep.step (PStep.c (p_fieldRef rfl wCd2_fld94_5 wCd2_siz3 rfl (Sees.of rfl) rfl)) rfl rfl rfl rfl) ?_
            refine dcons (CStep.step (PStep.c (p_loadB (y := .val _) rfl wCd2_agg3 (Sees.of rfl) rfl rfl rfl rfl)) rfl rfl rfl rfl) ?_
            refine dcons (CStep.step (c_buildSlice (f := di) (za := 0) (xs := [.tmp 97]) rfl rfl wCd2_isl22 wCd2_siz3 wCd2_zer3 rfl rfl ⟨_, _, rfl, (Sees.of rfl), rfl, rfl, rfl⟩) rfl rfl rfl rfl) ?_
            refine dcons (r_appendR (ob := 30001) rfl wCd2_isl22 wCd2_siz3 wCd2_byt3 wCd2_zer3 rfl rfl (Sees.of rfl) rfl (Sees.of rfl) (by simp only [List.length_cons, List.length_nil, List.length_append]; omega) (by simp only [List.length_cons, List.length_nil, List.length_append]; omega) rfl rfl rfl rfl rfl) ?_
            refine dcons (CStep.step (PStep.c (p_nilRef rfl (Sees.of rfl) rfl)) rfl rfl rfl rfl) ?_
            refine dcons (CStep.step (PStep.c (p_fieldRef rfl wCd2_fld94_4 wCd2_siz22 rfl (Sees.of rfl) rfl)) rfl rfl rfl rfl) ?_
            refine dcons (r_storeR rfl wCd2_siz22 rfl rfl rfl (Sees.of rfl) rfl rfl (Sees.of rfl) rfl) ?_
            refine dnil (by kernel_rfl) ?_
            refine f_seq ?_
            refine f_region ?_
            refine scons (CStep.step (PStep.c (p_assign (y := .val _) rfl (Sees.of rfl) rfl)) rfl rfl rfl rfl) ?_
            refine scons (CStep.step (PStep.c (p_assign (y := .val _) rfl (Sees.of rfl) rfl)) rfl rfl rfl rfl) ?_
            refine snil ?_
            refine f_ret ?_
            obtain ⟨rfl, rfl, rfl⟩ := hres.2.2 hd0 (by rw [hnx]; exact hc9)
            rw [hnx]
            refine endsB_ret (resB_eq (resB2 rfl (resB1_tmp rfl (Sees.of rfl)) (resB1_tmp rfl (Sees.of rfl))) ?_) ⟨rfl, rfl, rfl, rfl, rfl, rfl, rfl, rfl, trivial⟩ rfl
            rfl

theorem back_spec (n : Nat) (asked : List Int) (ph : Bool) (ul us uT uL uW uM : Nat) (s : Sp.Sr) (b : Int) (p : Nat) (hI : Sp.Inv n s) (hn : n ≤ 120) (hc : s.cl.length ≤ 2500) (hkp : Sp.keep s.lv b = p) :
    SpecB Go.Proofs.Tryz.prog 40 [.ref 30000 0 0, iv b] [(30000, .box 0 (.ccons (iv n) (.ccons (.val (ints asked)) (.ccons (bv ph) (.ccons (.ref 30010 uT 0) (.ccons (.row 30001 ul) (.ccons (iv (s.k)) (.ccons (.row 30002 us) .cnil)))))))), (30001, .arr ul 3 1 8 di 0 (s.lv)), (30002, .arr us 54 9 120 dStp (0, []) (lrn (s.st))), (30010, .box uT (.ccons (.val (intss (s.cl))) (.ccons (.row 30011 uL) (.ccons (.row 30012 uW) (.ccons (.row 30013 uM) .cnil))))), (30011, .arr uL 3 1 8 di 0 (s.L)), (30012, .arr uW 3 1 8 di 0 (s.W)), (30013, .mp uM vInt Value.bool (Sp.vmap (s.L)))] (.tup .nil) [(30000, .box 0 (.ccons (iv n) (.ccons (.val (ints asked)) (.ccons (bv ph) (.ccons (.ref 30010 (uT + 1) 0) (.ccons (.row 30001 (ul + 1 + p)) (.ccons (iv (((s.back b)).k)) (.ccons (.row 30002 us) .cnil)))))))), (30001, .arr (ul + 1 + p) 3 1 8 di 0 (((s.back b)).lv)), (30002, .arr us 54 9 120 dStp (0, []) (lrn (((s.back b)).st))), (30010, .box (uT + 1) (.ccons (.val (intss (((s.back b)).cl))) (.ccons (.row 30011 (uL + 1 + p)) (.ccons (.row 30012 (uW + 1 + p)) (.ccons (.row 30013 (uM + 1)) .cnil))))), (30011, .arr (uL + 1 + p) 3 1 8 di 0 (((s.back b)).L)), (30012, .arr (uW + 1 + p) 3 1 8 di 0 (((s.back b)).W)), (30013, .mp (uM + 1) vInt Value.bool (Sp.vmap (((s.back b)).L)))] := by
  refine specB_of' Go.Proofs.Tryz.func40 rfl Go.Proofs.Tryz.ntmps40 rfl rfl rfl ?_
  refine f_seq ?_
  have hll := hI.ll
  have hlw := hI.lw
  have hrm := (hI.room hn hc).2.1
  refine f_region ?_
  refine scons (CStep.step (PStep.c (p_move (y := .ref _ _ _) rfl (Sees.of rfl) rfl)) rfl rfl rfl rfl) ?_
  refine scons (CStep.step (PStep.c (p_nilRef rfl (Sees.of rfl) rfl)) rfl rfl rfl rfl) ?_
  refine scons (CStep.step (PStep.c (p_fieldRef rfl wCd2_fld94_3 wCd2_siz91 rfl (Sees.of rfl) rfl)) rfl rfl rfl rfl) ?_
  refine scons (CStep.step (PStep.c (p_loadB (y := .ref _ _ _) rfl wCd2_agg91 (Sees.of rfl) rfl rfl rfl rfl)) rfl rfl rfl rfl) ?_
  refine scons (CStep.step (PStep.c (p_assign (y := .ref _ _ _) rfl (Sees.of rfl) rfl)) rfl rfl rfl rfl) ?_
  refine snil ?_
  refine f_le (GLe.le (g_freezeB (ob := 30010) (off := 1) (o1 := 30011) rfl rfl rfl rfl rfl rfl rfl)) ?_ (by simp)
  refine f_le (GLe.le (g_freezeB (ob := 30010) (off := 2) (o1 := 30012) rfl rfl rfl rfl rfl rfl rfl)) ?_ (by simp)
  refine f_le (GLe.le (g_sealKS (k := 4) (o1 := 30010) rfl rfl rfl rfl (shc_cons (sh_of Sees.same rfl) (shc_cons (sh_of Sees.same rfl) (shc_cons (sh_of Sees.same rfl) (shc_cons (sh_map Sees.same rfl) shc_nil)))))) ?_ (by simp)
  refine f_le (le_kill (k := 30013) rfl rfl rfl) ?_ (by simp)
  refine f_seq ?_
  refine f_region ?_
  refine scons (CStep.step (PStep.c (p_move (y := .ref _ _ _) rfl (Sees.of rfl) rfl)) rfl rfl rfl rfl) ?_
  refine scons (CStep.step (PStep.c (p_move (y := .ptr _) rfl (Sees.of rfl) rfl)) rfl rfl rfl rfl) ?_
  refine scons (CStep.step (PStep.c (p_nilPtr rfl (Sees.of rfl))) rfl rfl rfl rfl) ?_
  refine scons (CStep.step (PStep.c (p_fieldAddr rfl wCd2_fld106_0 wCd2_siz23 (by decide) (Sees.of rfl) rfl rfl)) rfl rfl rfl rfl) ?_
  refine scons (CStep.step (PStep.c (p_load rfl wCd2_agg23 (Sees.of rfl) rfl)) rfl rfl rfl rfl) ?_
  refine scons (r_callV rfl wCd2_isf35 (New_spec uT uL uW uM s.cl) ⟨_, _, rfl, (Sees.of rfl), rfl⟩ ⟨rfl, rfl, rfl, rfl, trivial⟩ rfl (⟨⟨_, rfl, Nat.lt_succ_self _⟩, ⟨_, rfl, Nat.lt_succ_self _⟩, ⟨_, rfl, Nat.lt_succ_self _⟩, ⟨_, rfl, Nat.lt_succ_self _⟩, trivial⟩) rfl rfl rfl rfl rfl rfl rfl) ?_
  refine scons (CStep.step (PStep.c (p_nilRef rfl (Sees.of rfl) rfl)) rfl rfl rfl rfl) ?_
  refine scons (CStep.step (PStep.c (p_fieldRef rfl wCd2_fld94_3 wCd2_siz91 rfl (Sees.of rfl) rfl)) rfl rfl rfl rfl) ?_
  refine scons (r_storeO rfl wCd2_siz91 rfl rfl rfl (Sees.of rfl) rfl rfl (Sees.of rfl) (oneAt_ref rfl)) ?_
  refine snil ?_
  refine f_seq ?_
  refine f_region ?_
  refine scons (CStep.step (PStep.c (p_move (y := .ref _ _ _) rfl (Sees.of rfl) rfl)) rfl rfl rfl rfl) ?_
  refine scons (CStep.step (PStep.c (p_nilRef rfl (Sees.of rfl) rfl)) rfl rfl rfl rfl) ?_
  refine scons (CStep.step (PStep.c (p_fieldRef rfl wCd2_fld94_4 wCd2_siz22 rfl (Sees.of rfl) rfl)) rfl rfl rfl rfl) ?_
  refine scons (CStep.step (PStep.c (p_loadB (y := .row _ _) rfl wCd2_agg22 (Sees.of rfl) rfl rfl rfl rfl)) rfl rfl rfl rfl) ?_
  refine scons (CStep.step (PStep.c (p_assign (y := .row _ _) rfl (Sees.of rfl) rfl)) rfl rfl rfl rfl) ?_
  refine snil ?_
  refine f_seq ?_
  refine f_le (GLe.le (g_freeze (k := 5) (o1 := 30001) rfl rfl rfl rfl)) ?_ (by simp)
  refine f_region ?_
  refine scons (CStep.step (PStep.c (p_move (y := .ref _ _ _) rfl (Sees.of rfl) rfl)) rfl rfl rfl rfl) ?_
  refine scons (CStep.step (PStep.c (p_nilRef rfl (Sees.of rfl) rfl)) rfl rfl rfl rfl) ?_
  refine scons (CStep.step (PStep.c (p_fieldRef rfl wCd2_fld94_4 wCd2_siz22 rfl (Sees.of rfl) rfl)) rfl rfl rfl rfl) ?_
  refine scons (r_store rfl wCd2_siz22 rfl rfl rfl (Sees.of rfl) rfl rfl (Sees.of rfl) one_emp) ?_
  refine snil ?_
  refine f_le (GLe.le (g_adoptB (ob := 30000) (off := 4) (o1 := 30001) 3 1 8 di 0 rfl rfl rfl rfl rfl rfl rfl)) ?_ (by simp)
  refine f_seq ?_
  refine f_seq ?_
  refine f_region ?_
  refine scons (CStep.step (PStep.c (p_move (y := .ptr _) rfl (Sees.of rfl) rfl)) rfl rfl rfl rfl) ?_
  refine scons (CStep.step (PStep.c (p_nilPtr rfl (Sees.of rfl))) rfl rfl rfl rfl) ?_
  refine scons (CStep.step (PStep.c (p_fieldAddr rfl wCd2_fld106_1 wCd2_siz22 (by decide) (Sees.of rfl) rfl rfl)) rfl rfl rfl rfl) ?_
  refine scons (CStep.step (PStep.c (p_load rfl wCd2_agg22 (Sees.of rfl) rfl)) rfl rfl rfl rfl) ?_
  refine scons (CStep.step (PStep.c (p_len rfl wCd2_isl22 (Sees.of rfl))) rfl rfl rfl rfl) ?_
  refine scons (CStep.step (PStep.c (p_move (y := .val _) rfl (Sees.of rfl) rfl)) rfl rfl rfl rfl) ?_
  refine snil ?_
  refine f_block ?_
  refine f_loop (α := Nat) (fun i => i ≤ s.L.length ∧ ∀ x ∈ s.lv.take i, x ≤ b) (fun i => [(0, .ref 30000 0 0), (1, iv b), (4, .ptr (.agg (.cons (intss s.cl) (.cons (ints s.L) (.cons (ints s.W) (.cons .any .nil)))))), (5, .val (ints s.lv)), (30, .val (ints s.L)), (31, iv s.L.length), (32, iv i), (30000, .box 0 (.ccons (iv n) (.ccons (.val (ints asked)) (.ccons (bv ph) (.ccons (.ref 30010 (uT + 1) 0) (.ccons (.row 30001 (ul + 1 + i)) (.ccons (iv (s.k)) (.ccons (.row 30002 us) .cnil)))))))), (30001, .arr (ul + 1 + i) 3 1 8 di 0 (s.lv.take i)), (30002, .arr us 54 9 120 dStp (0, []) (lrn (s.st))), (30010, .box (uT + 1) (.ccons (.val (intss (s.cl))) (.ccons (.row 30011 (uL + 1 + i)) (.ccons (.row 30012 (uW + 1 + i)) (.ccons (.row 30013 (uM + 1)) .cnil))))), (30011, .arr (uL + 1 + i) 3 1 8 di 0 (s.L.take i)), (30012, .arr (uW + 1 + i) 3 1 8 di 0 (s.W.take i)), (30013, .mp (uM + 1) vInt Value.bool (Sp.vmap (s.L.take i))), (29999, .clo 0 (.ccons (.ref 30000 0 0) (.ccons (.row 30000 0) (.ccons (.row 30001 ul) (.ccons (.row 30002 us) (.ccons (.ref 30010 uT 0) (.ccons (.row 30010 uT) (.ccons (.row 30011 uL) (.ccons (.row 30012 uW) (.ccons (.ref 30013 uM 0) (.ccons (.row 30013 uM) .cnil)))))))))))]) (fun i => s.L.length - i) 0 ?_ ?_ ?_
  · exact ⟨Nat.zero_le _, by simp⟩
  · exact le_ofL ⟨rfl, rfl, rfl, rfl, rfl, rfl, rfl, rfl, rfl, rfl, rfl, rfl, rfl, rfl, rfl, trivial⟩ rfl
  · rintro i ⟨hi, hp⟩
    refine f_seq ?_
    refine f_region ?_
    refine scons (CStep.step (PStep.c (p_lss rfl (Sees.of rfl) (Sees.of rfl))) rfl rfl rfl rfl) ?_
    refine snil ?_
    refine f_seq ?_
    refine f_cond rfl ?_ ?_
    · intro hc1
      try simp only [bs] at hc1
      refine f_skip ?_
      refine f_seq ?_
      refine f_block ?_
      refine f_seq ?_
      refine f_region ?_
      refine scons (CStep.step (PStep.c (p_move (y := .val _) rfl (Sees.of rfl) rfl)) rfl rfl rfl rfl) ?_
      refine scons (CStep.step (PStep.c ((by first | exact p_indexN rfl wCd2_isl22 wCd2_siz3 (Sees.of rfl) (Sees.of rfl) (by omega) | exact p_index rfl wCd2_isl22 wCd2_siz3 (Sees.of rfl) (Sees.of rfl) (by omega) (by omega)))) rfl rfl rfl rfl) ?_
      refine scons (CStep.step (PStep.c (p_load rfl wCd2_agg3 (Sees.of rfl) rfl)) rfl rfl rfl rfl) ?_
      refine scons (CStep.step (PStep.c (p_assign (y := .val _) rfl (Sees.of rfl) rfl)) rfl rfl rfl rfl) ?_
      refine scons (CStep.step (PStep.c (p_assign (y := .val _) rfl (Sees.of rfl) rfl)) rfl rfl rfl rfl) ?_
      refine snil ?_
      refine f_seq ?_
      refine f_seq ?_
      refine f_region ?_
      refine scons (CStep.step (PStep.c (p_move (y := .val _) rfl (Sees.of rfl) rfl)) rfl rfl rfl rfl) ?_
      refine scons (CStep.step (PStep.c (p_move (y := .val _) rfl (Sees.of rfl) rfl)) rfl rfl rfl rfl) ?_
      refine scons (CStep.step (PStep.c ((by first | exact p_indexN rfl wCd2_isl22 wCd2_siz3 (Sees.of rfl) (Sees.of rfl) (by omega) | exact p_index rfl wCd2_isl22 wCd2_siz3 (Sees.of rfl) (Sees.of rfl) (by omega) (by omega)))) rfl rfl rfl rfl) ?_
      refine scons (CStep.step (PStep.c (p_load rfl wCd2_agg3 (Sees.of rfl) rfl)) rfl rfl rfl rfl) ?_
      refine scons (CStep.step (PStep.c (p_move (y := .val _) rfl (Sees.of rfl) rfl)) rfl rfl rfl rfl) ?_
      refine scons (CStep.step (PStep.c (p_gtr rfl (Sees.of rfl) (Sees.of rfl))) rfl rfl rfl rfl) ?_
      refine snil ?_
      refine f_cond rfl ?_ ?_
      · intro hc2
        try simp only [bs] at hc2
        obtain rfl : i = p := by rw [← hkp]; exact (Sp.keep_at (by omega) hp (.inr (by omega))).symm
        refine f_exit ?_
        show AWs _ _ _ _ _
        refine f_region ?_
        refine scons (CStep.step (PStep.c (p_move (y := .ref _ _ _) rfl (Sees.of rfl) rfl)) rfl rfl rfl rfl) ?_
        refine scons (CStep.step (PStep.c (p_move (y := .val _) rfl (Sees.of rfl) rfl)) rfl rfl rfl rfl) ?_
        refine scons (CStep.step (PStep.c (p_nilRef rfl (Sees.of rfl) rfl)) rfl rfl rfl rfl) ?_
        refine scons (CStep.step (PStep.c (p_fieldRef rfl wCd2_fld94_5 wCd2_siz3 rfl (Sees.of rfl) rfl)) rfl rfl rfl rfl) ?_
        refine scons (r_store rfl wCd2_siz3 rfl rfl rfl (Sees.of rfl) rfl rfl (Sees.of rfl) (one_val rfl)) ?_
        refine snil ?_
        refine endsB_end (resB_eq (resB_none rfl) ?_) ⟨rfl, rfl, (by rw [show (s.back b).lv = s.lv.take i by rw [← hkp]; rfl]; rfl), rfl, rfl, (by rw [show (s.back b).L = s.L.take i by rw [← hkp]; rfl]; rfl), (by rw [show (s.back b).W = s.W.take i by rw [← hkp]; rfl]; rfl), (by rw [show (s.back b).L = s.L.take i by rw [← hkp]; rfl]; rfl), trivial⟩ rfl
        rfl
      · intro hc2
        try simp only [bs] at hc2
        refine f_skip ?_
        refine f_seq ?_
        refine f_draw wCd2_mix (by kernel_rfl) ?_
        refine dcons (CStep.step (PStep.c (p_move (y := .ref _ _ _) rfl (Sees.of rfl) rfl)) rfl rfl rfl rfl) ?_
        refine dcons (CStep.step (PStep.c (p_nilRef rfl (Sees.of rfl) rfl)) rfl rfl rfl rfl) ?_
        refine dcons (CStep.step (PStep.c (p_fieldRef rfl wCd2_fld94_3 wCd2_siz91 rfl (Sees.of rfl) rfl)) rfl rfl rfl rfl) ?_
        refine dcons (CStep.step (PStep.c (p_loadB (y := .ref _ _ _) rfl wCd2_agg91 (Sees.of rfl) rfl rfl rfl rfl)) rfl rfl rfl rfl) ?_
        refine dcons (CStep.step (PStep.c (p_move (y := .val _) rfl (Sees.of rfl) rfl)) rfl rfl rfl rfl) ?_
        refine dcons (CStep.step (PStep.c (p_move (y := .ptr _) rfl (Sees.of rfl) rfl)) rfl rfl rfl rfl) ?_
        refine dcons (CStep.step (PStep.c (p_nilPtr rfl (Sees.of rfl))) rfl rfl rfl rfl) ?_
        refine dcons (CStep.step (PStep.c (p_fieldAddr rfl wCd2_fld106_2 wCd2_siz22 (by decide) (Sees.of rfl) rfl rfl)) rfl rfl rfl rfl) ?_
        refine dcons (CStep.step (PStep.c (p_load rfl wCd2_agg22 (Sees.of rfl) rfl)) rfl rfl rfl rfl) ?_
        refine dcons (CStep.step (PStep.c (p_move (y := .val _) rfl (Sees.of rfl) rfl)) rfl rfl rfl rfl) ?_
        refine dcons (CStep.step (PStep.c ((by first | exact p_indexN rfl wCd2_isl22 wCd2_siz3 (Sees.of rfl) (Sees.of rfl) (by omega) | exact p_index rfl wCd2_isl22 wCd2_siz3 (Sees.of rfl) (Sees.of rfl) (by omega) (by omega)))) rfl rfl rfl rfl) ?_
        refine dcons (CStep.step (PStep.c (p_load rfl wCd2_agg3 (Sees.of rfl) rfl)) rfl rfl rfl rfl) ?_
        refine dcons (r_callB rfl wCd2_isf83 (Add_spec (uT + 1) (uL + 1 + i) (uW + 1 + i) (uM + 1) s.cl (s.L.take i) (s.W.take i) (s.L.getD i 0) (s.W.getD i 0) (by simp; omega) (by simp; omega)) ⟨_, _, rfl, (Sees.of rfl), ⟨_, _, rfl, (Sees.of rfl), ⟨_, _, rfl, (Sees.of rfl), rfl⟩⟩⟩ ⟨rfl, rfl, rfl, rfl, trivial⟩ rfl rfl rfl rfl rfl rfl) ?_
        refine dnil (by kernel_rfl) ?_
        refine f_draw wCd2_mix (by kernel_rfl) ?_
        refine dcons (CStep.step (PStep.c (p_move (y := .ref _ _ _) rfl (Sees.of rfl) rfl)) rfl rfl rfl rfl) ?_
        refine dcons (CStep.step (PStep.c (p_move (y := .ref _ _ _) rfl (Sees.of rfl) rfl)) rfl rfl rfl rfl) ?_
        refine dcons (CStep.step (PStep.c (p_nilRef rfl (Sees.of rfl) rfl)) rfl rfl rfl rfl) ?_
        refine dcons (CStep.step (PStep.c (p_fieldRef rfl wCd2_fld94_4 wCd2_siz22 rfl (Sees.of rfl) rfl)) rfl rfl rfl rfl) ?_
        refine dcons (CStep.step (PStep.c (p_loadB (y := .row _ _) rfl wCd2_agg22 (Sees.of rfl) rfl rfl rfl rfl)) rfl rfl rfl rfl) ?_
        refine dcons (CStep.step (PStep.c (p_move (y := .val _) rfl (Sees.of rfl) rfl)) rfl rfl rfl rfl) ?_
        refine dcons (CStep.step (PStep.c (p_move (y := .val _) rfl (Sees.of rfl) rfl)) rfl rfl rfl rfl) ?_
        refine dcons (CStep.step (PStep.c ((by first | exact p_indexN rfl wCd2_isl22 wCd2_siz3 (Sees.of rfl) (Sees.of rfl) (by omega) | exact p_index rfl wCd2_isl22 wCd2_siz3 (Sees.of rfl) (Sees.of rfl) (by omega) (by omega)))) rfl rfl rfl rfl) ?_
        refine dcons (CStep.step (PStep.c (p_load rfl wCd2_agg3 (Sees.of rfl) rfl)) rfl rfl rfl rfl) ?_
        refine dcons (CStep.step (c_buildSlice (f := di) (za := 0) (xs := [.tmp 64]) rfl rfl wCd2_isl22 wCd2_siz3 wCd2_zer3 rfl rfl ⟨_, _, rfl, (Sees.of rfl), rfl, rfl, rfl⟩) rfl rfl rfl rfl) ?_
        refine dcons (r_appendR (ob := 30001) rfl wCd2_isl22 wCd2_siz3 wCd2_byt3 wCd2_zer3 rfl rfl (Sees.of rfl) rfl (Sees.of rfl) (by simp only [List.length_take, List.length_cons, List.length_nil]; omega) (by simp only [List.length_take, List.length_cons, List.length_nil]; omega) rfl rfl rfl rfl rfl) ?_
        refine dcons (CStep.step (PStep.c (p_nilRef rfl (Sees.of rfl) rfl)) rfl rfl rfl rfl) ?_
        refine dcons (CStep.step (PStep.c (p_fieldRef rfl wCd2_fld94_4 wCd2_siz22 rfl (Sees.of rfl) rfl)) rfl rfl rfl rfl) ?_
        refine dcons (r_storeR rfl wCd2_siz22 rfl rfl rfl (Sees.of rfl) rfl rfl (Sees.of rfl) rfl) ?_
        refine dnil (by kernel_rfl) ?_
        refine f_nil ?_
        show AWs _ _ _ _ _
        refine f_region ?_
        refine scons (CStep.step (PStep.c (p_add rfl (Sees.of rfl) (Sees.of rfl) (by omega))) rfl rfl rfl rfl) ?_
        refine scons (CStep.step (PStep.c (p_move (y := .val _) rfl (Sees.of rfl) rfl)) rfl rfl rfl rfl) ?_
        refine snil ?_
        refine f_back ⟨i + 1, ?_, ?_, le_ofL ⟨rfl, rfl, rfl, rfl, rfl, rfl, rfl, rfl, (by rw [Sp.take_getD s.lv i 0 (by omega)]; rfl), rfl, rfl, (by rw [Sp.take_getD s.L i 0 (by omega)]; rfl), (by rw [Sp.take_getD s.W i 0 (by omega)]; rfl), (by rw [Sp.take_getD s.L i 0 (by omega)]; rfl), rfl, trivial⟩ rfl⟩
        · exact ⟨by omega, Sp.step_all (z := 0) (by omega) hp (by omega)⟩
        · omega
    · intro hc1
      try simp only [bs] at hc1
      obtain rfl : i = p := by rw [← hkp]; exact (Sp.keep_at (by omega) hp (.inl (by omega))).symm
      refine f_exit ?_
      show AWs _ _ _ _ _
      refine f_region ?_
      refine scons (CStep.step (PStep.c (p_move (y := .ref _ _ _) rfl (Sees.of rfl) rfl)) rfl rfl rfl rfl) ?_
      refine scons (CStep.step (PStep.c (p_move (y := .val _) rfl (Sees.of rfl) rfl)) rfl rfl rfl rfl) ?_
      refine scons (CStep.step (PStep.c (p_nilRef rfl (Sees.of rfl) rfl)) rfl rfl rfl rfl) ?_
      refine scons (CStep.step (PStep.c (p_fieldRef rfl wCd2_fld94_5 wCd2_siz3 rfl (Sees.of rfl) rfl)) rfl rfl rfl rfl) ?_
      refine scons (r_store rfl wCd2_siz3 rfl rfl rfl (Sees.of rfl) rfl rfl (Sees.of rfl) (one_val rfl)) ?_
      refine snil ?_
      refine endsB_end (resB_eq (resB_none rfl) ?_) ⟨rfl, rfl, (by rw [show (s.back b).lv = s.lv.take i by rw [← hkp]; rfl]; rfl), rfl, rfl, (by rw [show (s.back b).L = s.L.take i by rw [← hkp]; rfl]; rfl), (by rw [show (s.back b).W = s.W.take i by rw [← hkp]; rfl]; rfl), (by rw [show (s.back b).L = s.L.take i by rw [← hkp]; rfl]; rfl), trivial⟩ rfl
      rfl

theorem core_spec (n : Nat) (asked : List Int) (ph : Bool) (s : Sp.Sr) (l : Int) (hI : Sp.Inv n s) (hn : n ≤ 120) (hc : s.cl.length ≤ 2500) (hl : -l ∈ s.L) :
    SpecF Go.Proofs.Tryz.prog 42 [.val (.ptr (.agg (.cons (di n) (.cons (ints asked) (.cons (.bool ph) (.cons (.ptr (.agg (.cons (intss s.cl) (.cons (ints s.L) (.cons (ints s.W) (.cons .any .nil)))))) (.cons (ints s.lv) (.cons (di s.k) (.cons (stps (lrn s.st)) .nil))))))))), iv l] ((ints (Sp.coreC s l))) := by
  refine specF_of' Go.Proofs.Tryz.func42 rfl Go.Proofs.Tryz.ntmps42 rfl ?_
  refine f_seq ?_
  have hgl := hI.gd _ hl
  have hrm := (hI.room hn hc).2.1
  have hlw := hI.lw
  refine f_region ?_
  refine scons (CStep.step (PStep.c (p_assign (y := .emp) rfl (Sees.of rfl) rfl)) rfl rfl rfl rfl) ?_
  refine snil ?_
  refine f_seq ?_
  refine f_region ?_
  refine scons (CStep.step (PStep.c (p_move (y := .val _) rfl (Sees.of rfl) rfl)) rfl rfl rfl rfl) ?_
  refine scons (r_buildRow (f := di) (za := 0) (xs := [.tmp 12]) (by_ := 8) (ob := 30000) rfl rfl wCd2_isl22 wCd2_siz3 wCd2_zer3 rfl rfl (by decide) ⟨_, _, rfl, (Sees.of rfl), rfl, rfl, rfl⟩ rfl rfl rfl rfl rfl) ?_
  refine scons (CStep.step (PStep.c (p_assign (y := .row _ _) rfl (Sees.of rfl) rfl)) rfl rfl rfl rfl) ?_
  refine snil ?_
  refine f_seq ?_
  refine f_region ?_
  refine scons (CStep.step (PStep.c (p_move (y := .val _) rfl (Sees.of rfl) rfl)) rfl rfl rfl rfl) ?_
  refine scons (CStep.step (PStep.c (p_neg rfl (Sees.of rfl) (by omega))) rfl rfl rfl rfl) ?_
  refine scons (r_buildRow (f := di) (za := 0) (xs := [.tmp 15]) (by_ := 8) (ob := 30020) rfl rfl wCd2_isl22 wCd2_siz3 wCd2_zer3 rfl rfl (by decide) ⟨_, _, rfl, (Sees.of rfl), rfl, rfl, rfl⟩ rfl rfl rfl rfl rfl) ?_
  refine scons (CStep.step (PStep.c (p_assign (y := .row _ _) rfl (Sees.of rfl) rfl)) rfl rfl rfl rfl) ?_
  refine snil ?_
  refine f_le (le_tl (o1 := 30020) rfl rfl (by simp)) ?_ (by simp)
  refine f_seq ?_
  refine f_region ?_
  refine scons (r_makeMap (ob := 30021) vInt Value.bool rfl rfl rfl rfl rfl rfl) ?_
  refine scons (CStep.step (PStep.c (p_move (y := .val _) rfl (Sees.of rfl) rfl)) rfl rfl rfl rfl) ?_
  refine scons (CStep.step (PStep.c (p_neg rfl (Sees.of rfl) (by omega))) rfl rfl rfl rfl) ?_
  refine scons (r_mapIns rfl wCd2_mty104 rfl rfl rfl (Sees.of rfl) rfl (Sees.of rfl) (Sees.of rfl)) ?_
  refine scons (CStep.step (PStep.c (p_move (y := .row _ _) rfl (Sees.of rfl) rfl)) rfl rfl rfl rfl) ?_
  refine scons (CStep.step (PStep.c (p_assign (y := .row _ _) rfl (Sees.of rfl) rfl)) rfl rfl rfl rfl) ?_
  refine snil ?_
  refine f_seq ?_
  refine f_block ?_
  refine f_loop (α := Nat × List Int × List Int × Nat × Nat × Nat) (fun (m, out, sn, j, u, v) => Sp.SeenC s l out sn j ∧ Sp.coreF s (s.L.length + 1) [l] [-l] 0 = Sp.coreF s m out sn j ∧ s.L.length < m + j ∧ out.length ≤ j + 1) (fun (m, out, sn, j, u, v) => [(0, .val (.ptr (.agg (.cons (di n) (.cons (ints asked) (.cons (.bool ph) (.cons (.ptr (.agg (.cons (intss s.cl) (.cons (ints s.L) (.cons (ints s.W) (.cons .any .nil)))))) (.cons (ints s.lv) (.cons (di s.k) (.cons (stps (lrn s.st)) .nil)))))))))), (5, .row 30000 u), (6, .row 30020 v), (7, .row 30021 0), (30000, .arr u 3 1 8 di 0 out), (30020, .tl v 3 1 8 di 0 (sn.drop j)), (30021, .mp 0 vInt Value.bool (Sp.vmap sn)), (4, .emp)]) (fun (m, out, sn, j, u, v) => m) (s.L.length + 1, [l], [-l], 0, 0, 0) ?_ ?_ ?_
  · exact ⟨Sp.SeenC.begin hl, rfl, by omega, by simp⟩
  · exact le_ofL ⟨rfl, rfl, rfl, rfl, rfl, rfl, rfl, rfl, trivial⟩ rfl
  · rintro ⟨m, out, sn, j, u, v⟩ ⟨hse, hfx, hmj, hol⟩
    have hsl := Sp.sub_len hse.nd hse.sub
    have hdl := List.length_drop (i := j) (l := sn)
    have hjl := hse.jl
    refine f_seq ?_
    refine f_seq ?_
    refine f_region ?_
    refine scons (CStep.step (PStep.c (p_move (y := .row _ _) rfl (Sees.of rfl) rfl)) rfl rfl rfl rfl) ?_
    refine scons (CStep.step (PStep.c (p_lenT rfl wCd2_isl22 (Sees.of rfl) rfl)) rfl rfl rfl rfl) ?_
    refine scons (CStep.step (PStep.c (p_gtr rfl (Sees.of rfl) (Sees.of rfl))) rfl rfl rfl rfl) ?_
    refine snil ?_
    refine f_cond rfl ?_ ?_
    · intro hc1
      try simp only [bs] at hc1
      refine f_skip ?_
      refine f_block ?_
      refine f_seq ?_
      refine f_region ?_
      refine scons (CStep.step (PStep.c (p_move (y := .row _ _) rfl (Sees.of rfl) rfl)) rfl rfl rfl rfl) ?_
      refine scons (CStep.step (PStep.c (p_indexT (m := 0) rfl wCd2_isl22 wCd2_siz3 (Sees.of rfl) rfl (Sees.of rfl) (by omega))) rfl rfl rfl rfl) ?_
      refine scons (CStep.step (PStep.c (p_loadT rfl wCd2_agg3 (Sees.of rfl) rfl (by omega) (fun _ => rfl))) rfl rfl rfl rfl) ?_
      refine scons (CStep.step (PStep.c (p_assign (y := .val _) rfl (Sees.of rfl) rfl)) rfl rfl rfl rfl) ?_
      refine snil ?_
      refine f_seq ?_
      rw [Sp.drop_at]
      refine f_region ?_
      refine scons (CStep.step (PStep.c (p_move (y := .row _ _) rfl (Sees.of rfl) rfl)) rfl rfl rfl rfl) ?_
      refine scons (r_tail (l := 1) rfl wCd2_isl22 wCd2_siz3 (Sees.of rfl) rfl (Sees.of rfl) (by omega) rfl rfl rfl rfl rfl) ?_
      refine scons (CStep.step (PStep.c (p_assign (y := .row _ _) rfl (Sees.of rfl) rfl)) rfl rfl rfl rfl) ?_
      refine snil ?_
      refine f_seq ?_
      have hj : j < sn.length := by have := List.length_drop (i := j) (l := sn); omega
      have hm := Sp.getD_mem sn j 0 hj
      have hxs := hse.sub _ hm
      have hpl := Sp.place_at hxs
      have hgx := hI.gd _ hxs
      have hpw : 0 ≤ (Sp.place s.L (sn.getD j 0)) ∧ (Sp.place s.L (sn.getD j 0)) < s.W.length := by omega
      refine f_region ?_
      refine scons (CStep.step (PStep.c (p_move (y := .val _) rfl (Sees.of rfl) rfl)) rfl rfl rfl rfl) ?_
      refine scons (CStep.step (PStep.c (p_nilPtr rfl (Sees.dptr rfl))) rfl rfl rfl rfl) ?_
      refine scons (CStep.step (PStep.c (p_fieldAddr rfl wCd2_fld94_3 wCd2_siz91 (by decide) (Sees.of rfl) rfl rfl)) rfl rfl rfl rfl) ?_
      refine scons (CStep.step (PStep.c (p_load rfl wCd2_agg91 (Sees.of rfl) rfl)) rfl rfl rfl rfl) ?_
      refine scons (CStep.step (PStep.c (p_nilPtr rfl (Sees.dptr rfl))) rfl rfl rfl rfl) ?_
      refine scons (CStep.step (PStep.c (p_fieldAddr rfl wCd2_fld106_1 wCd2_siz22 (by decide) (Sees.of rfl) rfl rfl)) rfl rfl rfl rfl) ?_
      refine scons (CStep.step (PStep.c (p_load rfl wCd2_agg22 (Sees.of rfl) rfl)) rfl rfl rfl rfl) ?_
      refine scons (CStep.step (PStep.c (p_move (y := .val _) rfl (Sees.of rfl) rfl)) rfl rfl rfl rfl) ?_
      refine scons (CStep.step (c_call rfl wCd2_isf85 ⟨_, _, rfl, (Sees.of rfl), rfl, ⟨_, _, rfl, (Sees.of rfl), rfl, rfl⟩⟩ (idxI_spec s.L (sn.getD j 0))) rfl rfl rfl rfl) ?_
      refine scons (CStep.step (PStep.c (p_assign (y := .val _) rfl (Sees.of rfl) rfl)) rfl rfl rfl rfl) ?_
      refine snil ?_
      refine f_seq ?_
      refine f_seq ?_
      refine f_region ?_
      refine scons (CStep.step (PStep.c (p_move (y := .val _) rfl (Sees.of rfl) rfl)) rfl rfl rfl rfl) ?_
      refine scons (CStep.step (PStep.c (p_nilPtr rfl (Sees.dptr rfl))) rfl rfl rfl rfl) ?_
      refine scons (CStep.step (PStep.c (p_fieldAddr rfl wCd2_fld94_3 wCd2_siz91 (by decide) (Sees.of rfl) rfl rfl)) rfl rfl rfl rfl) ?_
      refine scons (CStep.step (PStep.c (p_load rfl wCd2_agg91 (Sees.of rfl) rfl)) rfl rfl rfl rfl) ?_
      refine scons (CStep.step (PStep.c (p_nilPtr rfl (Sees.dptr rfl))) rfl rfl rfl rfl) ?_
      refine scons (CStep.step (PStep.c (p_fieldAddr rfl wCd2_fld106_2 wCd2_siz22 (by decide) (Sees.of rfl) rfl rfl)) rfl rfl rfl rfl) ?_
      refine scons (CStep.step (PStep.c (p_load rfl wCd2_agg22 (Sees.of rfl) rfl)) rfl rfl rfl rfl) ?_
      refine scons (CStep.step (PStep.c (p_move (y := .val _) rfl (Sees.of rfl) rfl)) rfl rfl rfl rfl) ?_
      refine scons (CStep.step (PStep.c ((by first | exact p_indexN rfl wCd2_isl22 wCd2_siz3 (Sees.of rfl) (Sees.of rfl) (by omega) | exact p_index rfl wCd2_isl22 wCd2_siz3 (Sees.of rfl) (Sees.of rfl) (by omega) (by omega)))) rfl rfl rfl rfl) ?_
      refine scons (CStep.step (PStep.c (p_load rfl wCd2_agg3 (Sees.of rfl) rfl)) rfl rfl rfl rfl) ?_
      refine scons (CStep.step (PStep.c (p_lss rfl (Sees.of rfl) (Sees.of rfl))) rfl rfl rfl rfl) ?_
      refine snil ?_
      refine f_cond rfl ?_ ?_
      · intro hc2
        try simp only [bs] at hc2
        obtain ⟨q, rfl⟩ : ∃ q, m = q + 1 := ⟨m - 1, by omega⟩
        refine f_seq ?_
        refine f_seq ?_
        refine f_region ?_
        refine scons (CStep.step (PStep.c (p_move (y := .row _ _) rfl (Sees.of rfl) rfl)) rfl rfl rfl rfl) ?_
        refine scons (CStep.step (PStep.c (p_move (y := .val _) rfl (Sees.of rfl) rfl)) rfl rfl rfl rfl) ?_
        refine scons (CStep.step (c_callS (q := true) rfl wCd2_isf81 (hasI_spec out (sn.getD j 0)) (sa_cons (sh_row (Sees.of rfl) rfl) (sa_cons (sh_of (Sees.of rfl) rfl) (sa_nil))) rfl) rfl rfl rfl rfl) ?_
        refine scons (CStep.step (PStep.c (p_not rfl (Sees.of rfl))) rfl rfl rfl rfl) ?_
        refine snil ?_
        refine f_cond rfl ?_ ?_
        · intro hc3
          try simp only [bs] at hc3
          refine f_region ?_
          refine scons (CStep.step (PStep.c (p_move (y := .row _ _) rfl (Sees.of rfl) rfl)) rfl rfl rfl rfl) ?_
          refine scons (CStep.step (PStep.c (p_move (y := .val _) rfl (Sees.of rfl) rfl)) rfl rfl rfl rfl) ?_
          refine scons (CStep.step (c_buildSlice (f := di) (za := 0) (xs := [.tmp 54]) rfl rfl wCd2_isl22 wCd2_siz3 wCd2_zer3 rfl rfl ⟨_, _, rfl, (Sees.of rfl), rfl, rfl, rfl⟩) rfl rfl rfl rfl) ?_
          refine scons (r_appendR (ob := 30000) rfl wCd2_isl22 wCd2_siz3 wCd2_byt3 wCd2_zer3 rfl rfl (Sees.of rfl) rfl (Sees.of rfl) (by simp only [List.length_cons, List.length_nil, List.length_append]; omega) (by simp only [List.length_cons, List.length_nil, List.length_append]; omega) rfl rfl rfl rfl rfl) ?_
          refine scons (CStep.step (PStep.c (p_assign (y := .row _ _) rfl (Sees.of rfl) rfl)) rfl rfl rfl rfl) ?_
          refine snil ?_
          refine f_exit ?_
          show AWs _ _ _ _ _
          refine f_back ⟨(q, out ++ [(sn.getD j 0)], sn, j + 1, u + 1, v + 1), ?_, ?_, le_ofL ⟨rfl, rfl, rfl, rfl, rfl, (by rw [Sp.drop_drop1]; rfl), rfl, rfl, trivial⟩ rfl⟩
          · exact ⟨by have := hse.dec hj (by omega); rwa [if_neg hc3] at this, by rw [hfx, Sp.coreF_dec hj (by omega), if_neg hc3], by omega, by simp; omega⟩
          · exact Nat.lt_succ_self q
        · intro hc3
          try simp only [bs] at hc3
          refine f_skip ?_
          refine f_exit ?_
          show AWs _ _ _ _ _
          refine f_back ⟨(q, out, sn, j + 1, u, v + 1), ?_, ?_, le_ofL ⟨rfl, rfl, rfl, rfl, rfl, (by rw [Sp.drop_drop1]; rfl), rfl, rfl, trivial⟩ rfl⟩
          · exact ⟨by have := hse.dec hj (by omega); rwa [if_pos hc3] at this, by rw [hfx, Sp.coreF_dec hj (by omega), if_pos hc3], by omega, by omega⟩
          · exact Nat.lt_succ_self q
      · intro hc2
        try simp only [bs] at hc2
        obtain ⟨q, rfl⟩ : ∃ q, m = q + 1 := ⟨m - 1, by omega⟩
        refine f_skip ?_
        refine f_seq ?_
        have hwy := hI.why_ok hxs (by omega)
        refine f_draw wCd2_mix (by kernel_rfl) ?_
        refine dcons (CStep.step (PStep.c (p_move (y := .val _) rfl (Sees.of rfl) rfl)) rfl rfl rfl rfl) ?_
        refine dcons (CStep.step (PStep.c (p_nilPtr rfl (Sees.dptr rfl))) rfl rfl rfl rfl) ?_
        refine dcons (CStep.step (PStep.c (p_fieldAddr rfl wCd2_fld94_3 wCd2_siz91 (by decide) (Sees.of rfl) rfl rfl)) rfl rfl rfl rfl) ?_
        refine dcons (CStep.step (PStep.c (p_load rfl wCd2_agg91 (Sees.of rfl) rfl)) rfl rfl rfl rfl) ?_
        refine dcons (CStep.step (PStep.c (p_nilPtr rfl (Sees.dptr rfl))) rfl rfl rfl rfl) ?_
        refine dcons (CStep.step (PStep.c (p_fieldAddr rfl wCd2_fld106_0 wCd2_siz23 (by decide) (Sees.of rfl) rfl rfl)) rfl rfl rfl rfl) ?_
        refine dcons (CStep.step (PStep.c (p_load rfl wCd2_agg23 (Sees.of rfl) rfl)) rfl rfl rfl rfl) ?_
        refine dcons (CStep.step (PStep.c (p_move (y := .val _) rfl (Sees.of rfl) rfl)) rfl rfl rfl rfl) ?_
        refine dcons (CStep.step (PStep.c (p_nilPtr rfl (Sees.dptr rfl))) rfl rfl rfl rfl) ?_
        refine dcons (CStep.step (PStep.c (p_fieldAddr rfl wCd2_fld94_3 wCd2_siz91 (by decide) (Sees.of rfl) rfl rfl)) rfl rfl rfl rfl) ?_
        refine dcons (CStep.step (PStep.c (p_load rfl wCd2_agg91 (Sees.of rfl) rfl)) rfl rfl rfl rfl) ?_
        refine dcons (CStep.step (PStep.c (p_nilPtr rfl (Sees.dptr rfl))) rfl rfl rfl rfl) ?_
        refine dcons (CStep.step (PStep.c (p_fieldAddr rfl wCd2_fld106_2 wCd2_siz22 (by decide) (Sees.of rfl) rfl rfl)) rfl rfl rfl rfl) ?_
        refine dcons (CStep.step (PStep.c (p_load rfl wCd2_agg22 (Sees.of rfl) rfl)) rfl rfl rfl rfl) ?_
        refine dcons (CStep.step (PStep.c (p_move (y := .val _) rfl (Sees.of rfl) rfl)) rfl rfl rfl rfl) ?_
        refine dcons (CStep.step (PStep.c ((by first | exact p_indexN rfl wCd2_isl22 wCd2_siz3 (Sees.of rfl) (Sees.of rfl) (by omega) | exact p_index rfl wCd2_isl22 wCd2_siz3 (Sees.of rfl) (Sees.of rfl) (by omega) (by omega)))) rfl rfl rfl rfl) ?_
        refine dcons (CStep.step (PStep.c (p_load rfl wCd2_agg3 (Sees.of rfl) rfl)) rfl rfl rfl rfl) ?_
        refine dcons (CStep.step (PStep.c ((by first | exact p_indexN rfl wCd2_isl23 wCd2_siz22 (Sees.of rfl) (Sees.of rfl) (by omega) | exact p_index rfl wCd2_isl23 wCd2_siz22 (Sees.of rfl) (Sees.of rfl) (by omega) (by omega)))) rfl rfl rfl rfl) ?_
        refine dcons (CStep.step (PStep.c (p_load rfl wCd2_agg22 (Sees.of rfl) rfl)) rfl rfl rfl rfl) ?_
        refine dcons (CStep.step (PStep.c (p_len rfl wCd2_isl22 (Sees.of rfl))) rfl rfl rfl rfl) ?_
        refine dcons (CStep.step (PStep.c (p_move (y := .val _) rfl (Sees.of rfl) rfl)) rfl rfl rfl rfl) ?_
        refine dnil (by kernel_rfl) ?_
        refine f_block ?_
        refine f_loop (α := Nat × Nat) (fun (i, w) => i ≤ (Sp.why s (-(sn.getD j 0))).length) (fun (i, w) => [(0, .val (.ptr (.agg (.cons (di n) (.cons (ints asked) (.cons (.bool ph) (.cons (.ptr (.agg (.cons (intss s.cl) (.cons (ints s.L) (.cons (ints s.W) (.cons .any .nil)))))) (.cons (ints s.lv) (.cons (di s.k) (.cons (stps (lrn s.st)) .nil)))))))))), (75, .val (ints (Sp.why s (-(sn.getD j 0))))), (76, iv (Sp.why s (-(sn.getD j 0))).length), (77, iv i), (8, iv (sn.getD j 0)), (5, .row 30000 u), (6, .row 30020 w), (7, .row 30021 0), (30000, .arr u 3 1 8 di 0 out), (30020, .tl w 3 1 8 di 0 ((Sp.grT (Sp.why s (-(sn.getD j 0))) (sn.getD j 0) sn i).drop (j + 1))), (30021, .mp 0 vInt Value.bool (Sp.vmap (Sp.grT (Sp.why s (-(sn.getD j 0))) (sn.getD j 0) sn i))), (4, .emp)]) (fun (i, w) => (Sp.why s (-(sn.getD j 0))).length - i) (0, v + 1) ?_ ?_ ?_
        · exact Nat.zero_le _
        · exact le_ofL ⟨rfl, (by rw [Sp.why_neg]; rfl), (by rw [Sp.why_neg]; rfl), rfl, rfl, rfl, rfl, rfl, rfl, (by show _ = AV.tl _ _ _ _ _ _ (List.drop (j + 1) sn); rw [← Sp.drop_drop1 sn j]; rfl), rfl, rfl, trivial⟩ rfl
        · rintro ⟨i, w⟩ hi
          refine f_seq ?_
          refine f_region ?_
          refine scons (CStep.step (PStep.c (p_lss rfl (Sees.of rfl) (Sees.of rfl))) rfl rfl rfl rfl) ?_
          refine snil ?_
          refine f_seq ?_
          refine f_cond rfl ?_ ?_
          · intro hc4
            try simp only [bs] at hc4
            refine f_skip ?_
            refine f_seq ?_
            refine f_block ?_
            refine f_seq ?_
            have hcy := hwy.2.2.2 _ (Sp.getD_mem (Sp.why s (-(sn.getD j 0))) i 0 (by omega))
            have hgt := Sp.grT_len (c := (Sp.why s (-(sn.getD j 0)))) (x := (sn.getD j 0)) (sn := sn) i
            refine f_region ?_
            refine scons (CStep.step (PStep.c ((by first | exact p_indexN rfl wCd2_isl22 wCd2_siz3 (Sees.of rfl) (Sees.of rfl) (by omega) | exact p_index rfl wCd2_isl22 wCd2_siz3 (Sees.of rfl) (Sees.of rfl) (by omega) (by omega)))) rfl rfl rfl rfl) ?_
            refine scons (CStep.step (PStep.c (p_load rfl wCd2_agg3 (Sees.of rfl) rfl)) rfl rfl rfl rfl) ?_
            refine scons (CStep.step (PStep.c (p_assign (y := .val _) rfl (Sees.of rfl) rfl)) rfl rfl rfl rfl) ?_
            refine snil ?_
            refine f_seq ?_
            refine f_region ?_
            refine scons (CStep.step (PStep.c (p_move (y := .val _) rfl (Sees.of rfl) rfl)) rfl rfl rfl rfl) ?_
            refine scons (CStep.step (PStep.c (p_move (y := .val _) rfl (Sees.of rfl) rfl)) rfl rfl rfl rfl) ?_
            refine scons (CStep.step (PStep.c (p_neq rfl (Sees.of rfl) (Sees.of rfl))) rfl rfl rfl rfl) ?_
            refine scons (CStep.step (PStep.c (p_move (y := .val _) rfl (Sees.of rfl) rfl)) rfl rfl rfl rfl) ?_
            refine scons (CStep.guard rfl rfl rfl (fun hg0 => PStep.c (p_move (y := .row _ _) rfl (Sees.of rfl) rfl)) rfl rfl rfl rfl rfl) ?_
            refine scons (CStep.guard rfl rfl rfl (fun hg0 => PStep.c (p_move (y := .val _) rfl (Sees.of rfl) rfl)) rfl rfl rfl rfl rfl) ?_
            refine scons (CStep.guard rfl rfl rfl (fun hg0 => by have hp0 := hg0; (try simp only [bs] at hp0); exact PStep.c (p_neg rfl (Sees.gv' rfl hg0) (by omega))) rfl rfl rfl rfl rfl) ?_
            refine scons (CStep.guard rfl rfl rfl (fun hg0 => PStep.c (p_look rfl wCd2_mty104 (Sees.gv' rfl hg0) rfl (Sees.gv' rfl hg0))) rfl rfl rfl rfl rfl) ?_
            refine scons (CStep.guard rfl rfl rfl (fun hg0 => PStep.c (p_not rfl (Sees.gv' rfl hg0))) rfl rfl rfl rfl rfl) ?_
            refine scons (CStep.step (PStep.c (p_and rfl (Sees.of rfl) (fun h => Sees.gv' rfl (beq_of_eq h)) (Sees.of rfl))) rfl rfl rfl rfl) ?_
            refine snil ?_
            refine f_cond rfl ?_ ?_
            · intro hc5
              try simp only [bs] at hc5
              simp only [Sp.vmap_get, decide_eq_false_iff_not] at hc5
              refine f_seq ?_
              refine f_region ?_
              refine scons (CStep.step (PStep.c (p_move (y := .row _ _) rfl (Sees.of rfl) rfl)) rfl rfl rfl rfl) ?_
              refine scons (CStep.step (PStep.c (p_move (y := .val _) rfl (Sees.of rfl) rfl)) rfl rfl rfl rfl) ?_
              refine scons (CStep.step (PStep.c (p_neg rfl (Sees.of rfl) (by omega))) rfl rfl rfl rfl) ?_
              refine scons (r_mapPut rfl wCd2_mty104 rfl rfl rfl (Sees.of rfl) rfl (Sees.of rfl) (Sees.of rfl)) ?_
              refine snil ?_
              refine f_region ?_
              refine scons (CStep.step (PStep.c (p_move (y := .row _ _) rfl (Sees.of rfl) rfl)) rfl rfl rfl rfl) ?_
              refine scons (CStep.step (PStep.c (p_move (y := .val _) rfl (Sees.of rfl) rfl)) rfl rfl rfl rfl) ?_
              refine scons (CStep.step (PStep.c (p_neg rfl (Sees.of rfl) (by omega))) rfl rfl rfl rfl) ?_
              refine scons (CStep.step (c_buildSlice (f := di) (za := 0) (xs := [.tmp 96]) rfl rfl wCd2_isl22 wCd2_siz3 wCd2_zer3 rfl rfl ⟨_, _, rfl, (Sees.of rfl), rfl, rfl, rfl⟩) rfl rfl rfl rfl) ?_
              refine scons (r_appendT rfl wCd2_isl22 wCd2_siz3 wCd2_byt3 wCd2_zer3 rfl rfl (Sees.of rfl) rfl (Sees.of rfl) (by simp only [List.length_drop, List.length_cons, List.length_nil]; omega) (by simp only [List.length_drop, List.length_cons, List.length_nil]; omega) (by simp) rfl rfl rfl rfl rfl) ?_
              refine scons (CStep.step (PStep.c (p_assign (y := .row _ _) rfl (Sees.of rfl) rfl)) rfl rfl rfl rfl) ?_
              refine snil ?_
              refine f_nil ?_
              show AWs _ _ _ _ _
              refine f_region ?_
              refine scons (CStep.step (PStep.c (p_add rfl (Sees.of rfl) (Sees.of rfl) (by omega))) rfl rfl rfl rfl) ?_
              refine scons (CStep.step (PStep.c (p_move (y := .val _) rfl (Sees.of rfl) rfl)) rfl rfl rfl rfl) ?_
              refine snil ?_
              refine f_back ⟨(i + 1, w + 1), ?_, ?_, le_ofL ⟨rfl, rfl, rfl, rfl, rfl, rfl, rfl, rfl, rfl, (by rw [Sp.grT_step (by omega), Sp.grow1, if_pos hc5, ← Sp.drop_snoc (by omega)]; rfl), (by rw [Sp.grT_step (by omega), Sp.grow1, if_pos hc5, ← Sp.vmap_put]; rfl), rfl, trivial⟩ rfl⟩
              · show i + 1 ≤ _
                omega
              · show _ - (i + 1) < _ - i
                omega
            · intro hc5
              try simp only [bs] at hc5
              simp only [Sp.vmap_get, decide_eq_true_eq] at hc5
              refine f_skip ?_
              refine f_nil ?_
              show AWs _ _ _ _ _
              refine f_region ?_
              refine scons (CStep.step (PStep.c (p_add rfl (Sees.of rfl) (Sees.of rfl) (by omega))) rfl rfl rfl rfl) ?_
              refine scons (CStep.step (PStep.c (p_move (y := .val _) rfl (Sees.of rfl) rfl)) rfl rfl rfl rfl) ?_
              refine snil ?_
              refine f_back ⟨(i + 1, w), ?_, ?_, le_ofL ⟨rfl, rfl, rfl, rfl, rfl, rfl, rfl, rfl, rfl, (by rw [Sp.grT_step (by omega), Sp.grow1, if_neg (fun h => hc5.elim (fun e => h.1 e) (fun e => h.2 e))]; rfl), (by rw [Sp.grT_step (by omega), Sp.grow1, if_neg (fun h => hc5.elim (fun e => h.1 e) (fun e => h.2 e))]; rfl), rfl, trivial⟩ rfl⟩
              · show i + 1 ≤ _
                omega
              · show _ - (i + 1) < _ - i
                omega
          · intro hc4
            try simp only [bs] at hc4
            refine f_exit ?_
            show AWs _ _ _ _ _
            refine f_nil ?_
            show AWs _ _ _ _ _
            refine f_back ⟨(q, out, (Sp.grT (Sp.why s (-(sn.getD j 0))) (sn.getD j 0) sn i), j + 1, u, w), ?_, ?_, le_ofL ⟨rfl, rfl, rfl, rfl, rfl, rfl, rfl, rfl, trivial⟩ rfl⟩
            · exact ⟨by rw [Sp.grT_all (by omega)]; exact hse.step hI hj (by omega), by rw [hfx, Sp.coreF_step hj (by omega), Sp.grT_all (by omega)], by omega, by omega⟩
            · exact Nat.lt_succ_self q
    · intro hc1
      try simp only [bs] at hc1
      refine f_exit ?_
      show AWs _ _ _ _ _
      refine f_seq ?_
      refine f_region ?_
      refine scons (CStep.step (PStep.c (p_move (y := .row _ _) rfl (Sees.of rfl) rfl)) rfl rfl rfl rfl) ?_
      refine scons (r_callB rfl wCd2_isf86 (sortI_spec Go.Proofs.Tryz.laySort u 3 8 out) ⟨_, _, rfl, (Sees.of rfl), rfl⟩ ⟨rfl, trivial⟩ rfl rfl rfl rfl rfl rfl) ?_
      refine snil ?_
      refine f_seq ?_
      refine f_region ?_
      refine scons (CStep.step (PStep.c (p_move (y := .row _ _) rfl (Sees.of rfl) rfl)) rfl rfl rfl rfl) ?_
      refine scons (CStep.step (PStep.c (p_assign (y := .row _ _) rfl (Sees.of rfl) rfl)) rfl rfl rfl rfl) ?_
      refine snil ?_
      refine f_ret ?_
      refine endsF_ret (resF_eq (resF1 rfl (resF_row rfl rfl rfl (fun _ => rfl))) ?_)
      rw [Sp.coreC, hfx, Sp.coreF_end (by omega)]

end Go.Um
