/- Walks of Go functions of this seat, each by its contract. No condition beyond what each theorem says. -/
import Derived.Test.YtfjafkocejoigaaGreatWDia
import Derived.Test.YtfjafkocejoigaaGreatPC
import Derived.Test.YtfjafkocejoigaaGreatProg
import Derived.KernelRfl
import Derived.Test.YtfjafkocejoigaaGreatQ
set_option maxRecDepth 4000
namespace Go.Um
open Go Go.RowKit

theorem wDia2_agg133 : IsAgg Go.Proofs.Tryz.prog 133 true := by unfold IsAgg; kernel_rfl
theorem wDia2_agg29 : IsAgg Go.Proofs.Tryz.prog 29 true := by unfold IsAgg; kernel_rfl
theorem wDia2_agg3 : IsAgg Go.Proofs.Tryz.prog 3 false := by unfold IsAgg; kernel_rfl
theorem wDia2_agg4 : IsAgg Go.Proofs.Tryz.prog 4 false := by unfold IsAgg; kernel_rfl
theorem wDia2_agg67 : IsAgg Go.Proofs.Tryz.prog 67 false := by unfold IsAgg; kernel_rfl
theorem wDia2_agg69 : IsAgg Go.Proofs.Tryz.prog 69 true := by unfold IsAgg; kernel_rfl
theorem wDia2_byt5 : Bytes Go.Proofs.Tryz.prog 5 1 := by unfold Bytes; kernel_rfl
theorem wDia2_fld133_0 : IsField Go.Proofs.Tryz.prog 133 0 0 3 := by unfold IsField; kernel_rfl
theorem wDia2_fld133_1 : IsField Go.Proofs.Tryz.prog 133 1 1 3 := by unfold IsField; kernel_rfl
theorem wDia2_fld133_2 : IsField Go.Proofs.Tryz.prog 133 2 2 3 := by unfold IsField; kernel_rfl
theorem wDia2_fld29_0 : IsField Go.Proofs.Tryz.prog 29 0 0 3 := by unfold IsField; kernel_rfl
theorem wDia2_fld69_0 : IsField Go.Proofs.Tryz.prog 69 0 0 67 := by unfold IsField; kernel_rfl
theorem wDia2_fld69_1 : IsField Go.Proofs.Tryz.prog 69 1 1 3 := by unfold IsField; kernel_rfl
theorem wDia2_isf233 : IsFn Go.Proofs.Tryz.prog 233 := by unfold IsFn; kernel_rfl
theorem wDia2_isf64 : IsFn Go.Proofs.Tryz.prog 64 := by unfold IsFn; kernel_rfl
theorem wDia2_isf65 : IsFn Go.Proofs.Tryz.prog 65 := by unfold IsFn; kernel_rfl
theorem wDia2_isl164 : IsSlice Go.Proofs.Tryz.prog 164 5 := by unfold IsSlice; kernel_rfl
theorem wDia2_isl33 : IsSlice Go.Proofs.Tryz.prog 33 4 := by unfold IsSlice; kernel_rfl
theorem wDia2_isl67 : IsSlice Go.Proofs.Tryz.prog 67 133 := by unfold IsSlice; kernel_rfl
theorem wDia2_mix : (Go.Proofs.Tryz.prog).follows .mixedOrders = true := by kernel_rfl
theorem wDia2_plc29 : Places Go.Proofs.Tryz.prog 29 [(0, 1), (1, 1)] := by unfold Places; kernel_rfl
theorem wDia2_siz133 : Size Go.Proofs.Tryz.prog 133 3 := by unfold Size; kernel_rfl
theorem wDia2_siz29 : Size Go.Proofs.Tryz.prog 29 2 := by unfold Size; kernel_rfl
theorem wDia2_siz3 : Size Go.Proofs.Tryz.prog 3 1 := by unfold Size; kernel_rfl
theorem wDia2_siz4 : Size Go.Proofs.Tryz.prog 4 1 := by unfold Size; kernel_rfl
theorem wDia2_siz5 : Size Go.Proofs.Tryz.prog 5 1 := by unfold Size; kernel_rfl
theorem wDia2_siz67 : Size Go.Proofs.Tryz.prog 67 1 := by unfold Size; kernel_rfl
theorem wDia2_siz69 : Size Go.Proofs.Tryz.prog 69 2 := by unfold Size; kernel_rfl
def wDia2_z29 : D := .cons (.int .i64 0) (.cons (.int .i64 0) (.nil))
theorem wDia2_zch29 : ∀ (ok : Nat → Prop) (w : World), R Go.Proofs.Tryz.prog wDia2_z29 ok w (Value.cells (.agg #[(.int .i64 0), (.int .i64 0)])).toList := fun _ _ => z_int (z_int (z_nil))
theorem wDia2_zer133 : Zero Go.Proofs.Tryz.prog 133 (.agg #[(.int .i64 0), (.int .i64 0), (.int .i64 0)]) := by unfold Zero; kernel_rfl
theorem wDia2_zer29 : Zero Go.Proofs.Tryz.prog 29 (.agg #[(.int .i64 0), (.int .i64 0)]) := by unfold Zero; kernel_rfl
theorem wDia2_zer5 : Zero Go.Proofs.Tryz.prog 5 (.int .u8 0) := by unfold Zero; kernel_rfl

theorem value_spec (n : Int) (l : List Sp.Cho) (r : Int) (a : List Bool) (hc : (Sp.diaCheck n l r).1 = 0) (ha : (a.length : Int) = n) :
    Spec Go.Proofs.Tryz.prog 65 [.val (dia l r), .val (bools a)] (D.bool (Sp.dvalue l r a)) := by
  refine spec_of' Go.Proofs.Tryz.func65 rfl Go.Proofs.Tryz.ntmps65 rfl ?_
  refine f_seq ?_
  have hok := Sp.dia_ok hc
  have hV := Sp.valid_of hok.2.2.1
  have hln := hok.2.1
  refine f_wf (.tmp 1) rfl (fun hwf => ?_) (by simp)
  have hlen : a.length ≤ 140737488355328 := hwf.1
  clear hwf
  refine f_region ?_; refine scons (r_box (ob := 10002) rfl Zz rfl rfl rfl rfl rfl rfl) (zm2 rfl rfl rfl (snil (f_seq (f_region ?_)))); refine zq (p_fieldRef rfl wDia2_fld69_1 wDia2_siz3 rfl Zz rfl) rfl ?_; refine zq (p_loadB (y := .val _) rfl wDia2_agg3 Zz rfl rfl rfl rfl) rfl (zm2 rfl rfl rfl (snil (f_seq (f_block ?_))))
  refine f_loop (α := Int) (fun i => (0 ≤ i ∧ i < l.length + 2) ∧ Sp.dvalue l r a = Sp.dval l a i.toNat i) (fun i => [(5, iv i), (1, .val (bools a)), (2, .ref 10002 0 0), (4, bv false), (10002, .box 0 (.ccons (.val (chos l)) (.ccons (iv r) .cnil)))]) (fun i => i.toNat) r ?_ ?_ ?_
  · exact ⟨hok.2.2.2.1, rfl⟩
  · exact le_ofL ⟨rfl, rfl, rfl, rfl, rfl, trivial⟩ rfl
  · rintro i ⟨hi, hd⟩
    refine f_seq (f_seq (f_region (zm1 rfl rfl rfl ?_))); refine zq (p_geq rfl Zz Zz) rfl (snil (f_cond rfl ?_ ?_))
    · intro hc1; (try simp only [bs] at hc1); refine f_skip (f_block (f_seq ?_))
      have hv := hV (i - 2).toNat (by omega)
      have hw := Sp.cho_ok (hok.2.2.1 (i - 2).toNat (by omega))
      refine f_region ?_; refine zq (p_fieldRef rfl wDia2_fld69_0 wDia2_siz67 rfl Zz rfl) rfl ?_; refine zq (p_loadB (y := .val _) rfl wDia2_agg67 Zz rfl rfl rfl rfl) rfl (zm1 rfl rfl rfl ?_); refine zq (p_sub rfl Zz Zz (by omega)) rfl ?_; refine zq ((by first | exact p_indexN rfl wDia2_isl67 wDia2_siz133 Zz Zz (by omega) | exact p_index rfl wDia2_isl67 wDia2_siz133 Zz Zz (by omega) (by omega))) rfl ?_; refine zq (p_loadS rfl wDia2_agg133 wDia2_siz133 Zz ⟨rfl, fun h => R_len rfl h⟩) rfl ?_; refine scons (r_alloc (ob := 10006) rfl wDia2_zer133 rfl rfl rfl rfl rfl rfl) ?_; refine scons (r_storeS rfl wDia2_siz133 rfl rfl rfl Zz rfl Zz rfl rfl rfl rfl) (snil (f_seq (f_region ?_))); refine zq (p_fieldRef rfl wDia2_fld133_1 wDia2_siz3 rfl Zz rfl) rfl ?_; refine zq (p_loadB (y := .val _) rfl wDia2_agg3 Zz rfl rfl rfl rfl) rfl (zm2 rfl rfl rfl (snil (f_seq (f_region (zm1 rfl rfl rfl ?_))))); refine zq (p_fieldRef rfl wDia2_fld133_0 wDia2_siz3 rfl Zz rfl) rfl ?_; refine zq (p_loadB (y := .val _) rfl wDia2_agg3 Zz rfl rfl rfl rfl) rfl ?_; refine zq (p_sub rfl Zz Zz (by omega)) rfl ?_; refine zq ((by first | exact p_indexN rfl wDia2_isl33 wDia2_siz4 Zz Zz (by omega) | exact p_index rfl wDia2_isl33 wDia2_siz4 Zz Zz (by omega) (by omega))) rfl ?_; refine zq (p_load rfl wDia2_agg4 Zz rfl) rfl (snil (f_cond rfl ?_ ?_))
      · intro hc2; (try simp only [bs] at hc2); refine f_region ?_; refine zq (p_fieldRef rfl wDia2_fld133_2 wDia2_siz3 rfl Zz rfl) rfl ?_; refine zq (p_loadB (y := .val _) rfl wDia2_agg3 Zz rfl rfl rfl rfl) rfl (zm2 rfl rfl rfl (snil (f_nil ?_))); show AWs _ _ _ _ _
        refine f_back ⟨(l.getD (i - 2).toNat (0, 0, 0)).2.2, ?_, ?_, le_ofL ⟨rfl, rfl, rfl, rfl, rfl, trivial⟩ rfl⟩
        · exact ⟨by omega, by rw [hd]; exact Sp.dval_step hV a i _ (by omega) (by omega) (by rw [if_pos hc2])⟩
        · omega
      · intro hc2; (try simp only [bs] at hc2); refine f_skip (f_nil ?_); show AWs _ _ _ _ _
        refine f_back ⟨(l.getD (i - 2).toNat (0, 0, 0)).2.1, ?_, ?_, le_ofL ⟨rfl, rfl, rfl, rfl, rfl, trivial⟩ rfl⟩
        · exact ⟨by omega, by rw [hd]; exact Sp.dval_step hV a i _ (by omega) (by omega) (by rw [if_neg (by rw [hc2]; decide)])⟩
        · omega
    · intro hc1; (try simp only [bs] at hc1); refine f_exit ?_; show AWs _ _ _ _ _; refine f_seq (f_region (zm1 rfl rfl rfl ?_)); refine zq (p_eql rfl Zz Zz) rfl (zm2 rfl rfl rfl (snil (f_ret ?_)))
      refine ends_ret (res_eq (res1 rfl (res_tmp rfl (Sees.of rfl))) ?_)
      rw [hd, Sp.dval_end a i hi.1 (by omega)]

theorem Value_spec (n : Int) (l : List Sp.Cho) (r : Int) (a : List Bool) :
    Spec Go.Proofs.Tryz.prog 23 [iv n, .val (dia l r), .val (bools a)] (two (D.bool (Sp.diaValue n l r a).1) (fault (Sp.diaValue n l r a).2.1 (Sp.diaValue n l r a).2.2)) := by
  refine spec_of' Go.Proofs.Tryz.func23 rfl Go.Proofs.Tryz.ntmps23 rfl ?_
  refine f_seq (f_region ?_); refine scons (r_box (ob := 10004) rfl Zz rfl rfl rfl rfl rfl rfl) (zm2 rfl rfl rfl ?_); refine scons (r_alloc (ob := 10007) rfl wDia2_zer29 rfl rfl rfl rfl rfl rfl) (snil (f_seq (f_seq (f_region (zm1 rfl rfl rfl ?_))))); refine zq (p_loadBS rfl wDia2_agg69 wDia2_siz69 Zz rfl rfl rfl) rfl ?_; refine zc (c_call rfl wDia2_isf64 ⟨_, _, rfl, Zz, rfl, ⟨_, _, rfl, Zz, rfl, rfl⟩⟩ (diaCheck_spec n l r)) rfl ?_; refine scons (r_alloc (ob := 10008) rfl wDia2_zer29 rfl rfl rfl rfl rfl rfl) ?_; refine scons (r_storeS rfl wDia2_siz29 rfl rfl rfl Zz rfl Zz rfl rfl rfl rfl) (snil (f_seq (f_region ?_))); refine zq (p_fieldRef rfl wDia2_fld29_0 wDia2_siz3 rfl Zz rfl) rfl ?_; refine zq (p_loadB (y := .val _) rfl wDia2_agg3 Zz rfl rfl rfl rfl) rfl ?_; refine zq (p_neq rfl Zz Zz) rfl (snil (f_cond rfl ?_ ?_))
  · intro hc1; (try simp only [bs] at hc1); refine f_seq ?_; refine f_draw wDia2_mix (by kernel_rfl) ?_; refine yq (p_loadBS rfl wDia2_agg29 wDia2_siz29 Zz rfl rfl rfl) rfl (zd2 rfl rfl rfl ?_); refine dcons (r_storeS rfl wDia2_siz29 rfl rfl rfl Zz rfl Zz rfl rfl rfl rfl) ?_; refine dnil (by kernel_rfl) (f_ret ?_)
    refine ends_ret (res_eq (res2 rfl (res_tmp rfl (Sees.of rfl)) (res_cell (by rfl) rfl rfl wDia2_agg29 wDia2_siz29 rfl rfl)) ?_)
    rw [Sp.diaValue, if_pos hc1]
    all_goals rfl
  · intro hc1; (try simp only [bs] at hc1); refine f_skip (f_seq (f_seq (f_region (zm1 rfl rfl rfl ?_)))); refine zq (p_len rfl wDia2_isl33 Zz) rfl (zm1 rfl rfl rfl ?_); refine zq (p_neq rfl Zz Zz) rfl (snil (f_cond rfl ?_ ?_))
    · intro hc2; (try simp only [bs] at hc2); refine f_seq (f_region ?_); refine zq (p_build rfl wDia2_plc29 wDia2_zer29 (by decide) wDia2_zch29 ⟨_, _, _, rfl, rfl, rfl, Zz, ⟨_, _, _, rfl, rfl, rfl, Zz, rfl⟩⟩ rfl) rfl (zm2 rfl rfl rfl ?_); refine scons (r_storeS rfl wDia2_siz29 rfl rfl rfl Zz rfl Zz rfl rfl rfl rfl) (snil (f_ret ?_))
      refine ends_ret (res_eq (res2 rfl (res_tmp rfl (Sees.of rfl)) (res_cell (by rfl) rfl rfl wDia2_agg29 wDia2_siz29 rfl rfl)) ?_)
      rw [Sp.diaValue, if_neg (fun h => h hc1), if_pos hc2]
      all_goals rfl
    · intro hc2; (try simp only [bs] at hc2); refine f_skip (f_seq (f_region ?_)); refine zq (p_loadBS rfl wDia2_agg69 wDia2_siz69 Zz rfl rfl rfl) rfl (zm1 rfl rfl rfl ?_); refine zc (c_call rfl wDia2_isf65 ⟨_, _, rfl, Zz, rfl, ⟨_, _, rfl, Zz, rfl, rfl⟩⟩ (value_spec n l r a hc1 hc2)) rfl ?_; refine zq (p_build rfl wDia2_plc29 wDia2_zer29 (by decide) wDia2_zch29 rfl rfl) rfl (zm2 rfl rfl rfl ?_); refine scons (r_storeS rfl wDia2_siz29 rfl rfl rfl Zz rfl Zz rfl rfl rfl rfl) (snil (f_ret ?_))
      refine ends_ret (res_eq (res2 rfl (res_tmp rfl (Sees.of rfl)) (res_cell (by rfl) rfl rfl wDia2_agg29 wDia2_siz29 rfl rfl)) ?_)
      rw [Sp.diaValue, if_neg (fun h => h hc1), if_neg (fun h => h hc2)]
      all_goals rfl

theorem Made_spec (n : Nat) (p : List Bool → Bool) (hn : n ≤ 16) :
    SpecN Go.Proofs.Tryz.prog 227 [iv n, .val (.fn (α := { z : List Bool // z.length = n }) (fun z => .cons (bools z.1) .nil) (fun z => .bool (p z.1)))] 5 1 1 dby (Sp.btab p n) := by
  refine specN_of' Go.Proofs.Tryz.func227 rfl Go.Proofs.Tryz.ntmps227 rfl ?_
  refine f_seq ?_
  have hpw := Sp.pow_ok (m := n) (by omega)
  have hp16 := Sp.pow16 hn
  refine f_region (zm5 rfl rfl rfl (snil (f_seq (f_region (zm1 rfl rfl rfl ?_))))); refine zq (p_shl rfl Zz Zz (by omega) (by omega) (by first | omega | assumption)) rfl ?_; refine scons (r_make (m := 2 ^ n) (f := dby) (z := 0) (ob := 10009) rfl wDia2_isl164 wDia2_siz5 wDia2_byt5 wDia2_zer5 rfl rfl rfl (fun _ _ => rfl) (Sees.of (congrArg (fun q => AV.val (.int .i64 q)) (Sp.pow_nat n))) (by omega) (by omega) rfl rfl rfl rfl rfl) (zm4 rfl rfl rfl (snil (f_seq (f_seq (f_region (zm3 rfl rfl rfl ?_)))))); refine zq (p_lenR rfl wDia2_isl164 Zz rfl) rfl (zm1 rfl rfl rfl (snil (f_block ?_)))
  refine f_loop (α := Nat) (fun i => i ≤ 2 ^ n) (fun i => [(12, iv i), (11, iv (2 ^ n : Nat)), (5, .row 10009 0), (10009, .arr 0 5 1 1 dby 0 ((Sp.btab p n).take i ++ List.replicate (2 ^ n - i) 0)), (0, iv n), (1, .val (.fn (α := { z : List Bool // z.length = n }) (fun z => .cons (bools z.1) .nil) (fun z => .bool (p z.1)))), (4, .emp)]) (fun i => 2 ^ n - i) 0 ?_ ?_ ?_
  · exact Nat.zero_le _
  · exact le_ofL ⟨rfl, (by show AV.val (.int .i64 ((List.replicate (2 ^ n) (0 : Int)).length : Nat)) = _; rw [List.length_replicate]), rfl, rfl, rfl, rfl, rfl, trivial⟩ rfl
  · rintro i hi
    have hi : i ≤ 2 ^ n := hi
    refine f_seq (f_region ?_); refine zq (p_lss rfl Zz Zz) rfl (snil (f_seq (f_cond rfl ?_ ?_)))
    · intro hc1; (try simp only [bs] at hc1); refine f_skip (f_seq (f_block (f_seq (f_region (zm1 rfl rfl rfl (zm2 rfl rfl rfl (snil (f_seq (f_region (zm1 rfl rfl rfl (zm1 rfl rfl rfl (zm1 rfl rfl rfl ?_)))))))))))); refine scons (r_callS (q := false) (ob := 10018) false rfl wDia2_isf233 (assignment_spec n i (by omega)) (sa_cons (sh_of Zz rfl) (sa_cons (sh_of Zz rfl) (sa_nil))) (.inl rfl) rfl rfl rfl rfl rfl) ?_; refine zc (c_callV (q := true) (⟨Sp.bits n i, Sp.bits_length n i⟩) rfl Zz rfl (sa_cons (sh_row Zz rfl) (sa_nil)) rfl) rfl (snil (f_cond rfl ?_ ?_))
      · intro hc2; (try simp only [bs] at hc2); refine f_region (zm3 rfl rfl rfl (zm1 rfl rfl rfl ?_)); refine zq ((by first | exact p_indexR rfl wDia2_isl164 wDia2_siz5 Zz rfl Zz (by simp only [List.length_append, List.length_take, List.length_replicate, Sp.btab_len]; omega) | exact p_indexRZ rfl wDia2_isl164 wDia2_siz5 Zz rfl Zz (by omega) (by simp only [List.length_append, List.length_take, List.length_replicate, Sp.btab_len]; omega))) rfl ?_; refine scons (r_storeE rfl wDia2_siz5 rfl rfl rfl Zz rfl (by simp only [List.length_append, List.length_take, List.length_replicate, Sp.btab_len]; omega) Zz rfl) ?_; refine snil (f_nil ?_); show AWs _ _ _ _ _; refine f_region ?_; refine zq (p_add rfl Zz Zz (by omega)) rfl (zm1 rfl rfl rfl (snil ?_))
        refine f_back ⟨i + 1, ?_, ?_, le_ofL ⟨rfl, rfl, rfl, (by rw [← Sp.btab_yes (by omega) hc2]; rfl), rfl, rfl, rfl, trivial⟩ rfl⟩
        · omega
        · omega
      · intro hc2; (try simp only [bs] at hc2); refine f_skip (f_nil ?_); show AWs _ _ _ _ _; refine f_region ?_; refine zq (p_add rfl Zz Zz (by omega)) rfl (zm1 rfl rfl rfl (snil ?_))
        refine f_back ⟨i + 1, ?_, ?_, le_ofL ⟨rfl, rfl, rfl, (by rw [← Sp.btab_no (by omega) hc2]; rfl), rfl, rfl, rfl, trivial⟩ rfl⟩
        · omega
        · omega
    · intro hc1; (try simp only [bs] at hc1); refine f_exit ?_; show AWs _ _ _ _ _; refine f_seq (f_region (zm3 rfl rfl rfl (zm4 rfl rfl rfl (snil (f_ret ?_)))))
      refine endsN_ret (resN_eq (resN_row rfl rfl rfl rfl) ?_)
      obtain rfl : i = 2 ^ n := by omega
      rw [List.take_of_length_le (by rw [Sp.btab_len]; omega), Nat.sub_self, List.replicate_zero, List.append_nil]

end Go.Um
