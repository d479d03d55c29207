/- Walks of Go functions of this seat, each by its contract. No condition beyond what each theorem says. -/
import Derived.Test.YtfjafkocejoigaaWDia
import Derived.Test.YtfjafkocejoigaaPC
import Derived.Test.YtfjafkocejoigaaProg
import Derived.KernelRfl
import Derived.Test.YtfjafkocejoigaaQ
set_option maxRecDepth 4000
namespace Go.Um
open Go Go.RowKit

theorem wDia2_agg27 : IsAgg Go.Proofs.Try.prog 27 false := by unfold IsAgg; kernel_rfl
theorem wDia2_agg29 : IsAgg Go.Proofs.Try.prog 29 true := by unfold IsAgg; kernel_rfl
theorem wDia2_agg3 : IsAgg Go.Proofs.Try.prog 3 false := by unfold IsAgg; kernel_rfl
theorem wDia2_agg4 : IsAgg Go.Proofs.Try.prog 4 false := by unfold IsAgg; kernel_rfl
theorem wDia2_agg80 : IsAgg Go.Proofs.Try.prog 80 true := by unfold IsAgg; kernel_rfl
theorem wDia2_byt5 : Bytes Go.Proofs.Try.prog 5 1 := by unfold Bytes; kernel_rfl
theorem wDia2_fld29_0 : IsField Go.Proofs.Try.prog 29 0 0 27 := by unfold IsField; kernel_rfl
theorem wDia2_fld29_1 : IsField Go.Proofs.Try.prog 29 1 1 3 := by unfold IsField; kernel_rfl
theorem wDia2_fld80_0 : IsField Go.Proofs.Try.prog 80 0 0 3 := by unfold IsField; kernel_rfl
theorem wDia2_fld80_1 : IsField Go.Proofs.Try.prog 80 1 1 3 := by unfold IsField; kernel_rfl
theorem wDia2_fld80_2 : IsField Go.Proofs.Try.prog 80 2 2 3 := by unfold IsField; kernel_rfl
theorem wDia2_isf25 : IsFn Go.Proofs.Try.prog 25 := by unfold IsFn; kernel_rfl
theorem wDia2_isf39 : IsFn Go.Proofs.Try.prog 39 := by unfold IsFn; kernel_rfl
theorem wDia2_isf40 : IsFn Go.Proofs.Try.prog 40 := by unfold IsFn; kernel_rfl
theorem wDia2_isf42 : IsFn Go.Proofs.Try.prog 42 := by unfold IsFn; kernel_rfl
theorem wDia2_isl27 : IsSlice Go.Proofs.Try.prog 27 80 := by unfold IsSlice; kernel_rfl
theorem wDia2_isl42 : IsSlice Go.Proofs.Try.prog 42 5 := by unfold IsSlice; kernel_rfl
theorem wDia2_isl56 : IsSlice Go.Proofs.Try.prog 56 4 := by unfold IsSlice; kernel_rfl
theorem wDia2_siz27 : Size Go.Proofs.Try.prog 27 1 := by unfold Size; kernel_rfl
theorem wDia2_siz29 : Size Go.Proofs.Try.prog 29 2 := by unfold Size; kernel_rfl
theorem wDia2_siz3 : Size Go.Proofs.Try.prog 3 1 := by unfold Size; kernel_rfl
theorem wDia2_siz4 : Size Go.Proofs.Try.prog 4 1 := by unfold Size; kernel_rfl
theorem wDia2_siz5 : Size Go.Proofs.Try.prog 5 1 := by unfold Size; kernel_rfl
theorem wDia2_siz80 : Size Go.Proofs.Try.prog 80 3 := by unfold Size; kernel_rfl
theorem wDia2_zer5 : Zero Go.Proofs.Try.prog 5 (.int .u8 0) := by unfold Zero; kernel_rfl
theorem wDia2_zer80 : Zero Go.Proofs.Try.prog 80 (.agg #[(.int .i64 0), (.int .i64 0), (.int .i64 0)]) := by unfold Zero; kernel_rfl

theorem value_spec (n : Int) (l : List Sp.Cho) (r : Int) (a : List Bool) (hc : (Sp.diaCheck n l r).1 = 0) (ha : (a.length : Int) = n) :
    Spec Go.Proofs.Try.prog 40 [.val (dia l r), .val (bools a)] (D.bool (Sp.dvalue l r a)) := by
  refine spec_of' Go.Proofs.Try.func40 rfl Go.Proofs.Try.ntmps40 rfl ?_
  refine f_seq ?_
  have hok := Sp.dia_ok hc
  have hV := Sp.valid_of hok.2.2.1
  have hln := hok.2.1
  refine f_wf (.tmp 1) rfl (fun hwf => ?_) (by simp)
  have hlen : a.length ≤ 140737488355328 := hwf.1
  clear hwf
  refine f_region ?_; refine scons (r_box (ob := 10002) rfl Zz rfl rfl rfl rfl rfl rfl) (zm2 rfl rfl rfl (snil (f_seq (f_region ?_)))); refine zq (p_fieldRef rfl wDia2_fld29_1 wDia2_siz3 rfl Zz rfl) rfl ?_; refine zq (p_loadB (y := .val _) rfl wDia2_agg3 Zz rfl rfl rfl rfl) rfl (zm2 rfl rfl rfl (snil (f_seq (f_block ?_))))
  refine f_loop (α := Int) (fun i => (0 ≤ i ∧ i < l.length + 2) ∧ Sp.dvalue l r a = Sp.dval l a i.toNat i) (fun i => [(5, iv i), (1, .val (bools a)), (2, .ref 10002 0 0), (4, bv false), (10002, .box 0 (.ccons (.val (chos l)) (.ccons (iv r) .cnil)))]) (fun i => i.toNat) r ?_ ?_ ?_
  · exact ⟨hok.2.2.2.1, rfl⟩
  · exact le_ofL ⟨rfl, rfl, rfl, rfl, rfl, trivial⟩ rfl
  · rintro i ⟨hi, hd⟩
    refine f_seq (f_seq (f_region (zm1 rfl rfl rfl ?_))); refine zq (p_geq rfl Zz Zz) rfl (snil (f_cond rfl ?_ ?_))
    · intro hc1; (try simp only [bs] at hc1); refine f_skip (f_block (f_seq ?_))
      have hv := hV (i - 2).toNat (by omega)
      have hw := Sp.cho_ok (hok.2.2.1 (i - 2).toNat (by omega))
      refine f_region ?_; refine zq (p_fieldRef rfl wDia2_fld29_0 wDia2_siz27 rfl Zz rfl) rfl ?_; refine zq (p_loadB (y := .val _) rfl wDia2_agg27 Zz rfl rfl rfl rfl) rfl (zm1 rfl rfl rfl ?_); refine zq (p_sub rfl Zz Zz (by omega)) rfl ?_; refine zq ((by first | exact p_indexN rfl wDia2_isl27 wDia2_siz80 Zz Zz (by omega) | exact p_index rfl wDia2_isl27 wDia2_siz80 Zz Zz (by omega) (by omega))) rfl ?_; refine zq (p_loadS rfl wDia2_agg80 wDia2_siz80 Zz ⟨rfl, fun h => R_len rfl h⟩) rfl ?_; refine scons (r_alloc (ob := 10006) rfl wDia2_zer80 rfl rfl rfl rfl rfl rfl) ?_; refine scons (r_storeS rfl wDia2_siz80 rfl rfl rfl Zz rfl Zz rfl rfl rfl rfl) (snil (f_seq (f_region ?_))); refine zq (p_fieldRef rfl wDia2_fld80_1 wDia2_siz3 rfl Zz rfl) rfl ?_; refine zq (p_loadB (y := .val _) rfl wDia2_agg3 Zz rfl rfl rfl rfl) rfl (zm2 rfl rfl rfl (snil (f_seq (f_region (zm1 rfl rfl rfl ?_))))); refine zq (p_fieldRef rfl wDia2_fld80_0 wDia2_siz3 rfl Zz rfl) rfl ?_; refine zq (p_loadB (y := .val _) rfl wDia2_agg3 Zz rfl rfl rfl rfl) rfl ?_; refine zq (p_sub rfl Zz Zz (by omega)) rfl ?_; refine zq ((by first | exact p_indexN rfl wDia2_isl56 wDia2_siz4 Zz Zz (by omega) | exact p_index rfl wDia2_isl56 wDia2_siz4 Zz Zz (by omega) (by omega))) rfl ?_; refine zq (p_load rfl wDia2_agg4 Zz rfl) rfl (snil (f_cond rfl ?_ ?_))
      · intro hc2; (try simp only [bs] at hc2); refine f_region ?_; refine zq (p_fieldRef rfl wDia2_fld80_2 wDia2_siz3 rfl Zz rfl) rfl ?_; refine zq (p_loadB (y := .val _) rfl wDia2_agg3 Zz rfl rfl rfl rfl) rfl (zm2 rfl rfl rfl (snil (f_nil ?_))); show AWs _ _ _ _ _
        refine f_back ⟨(l.getD (i - 2).toNat (0, 0, 0)).2.2, ?_, ?_, le_ofL ⟨rfl, rfl, rfl, rfl, rfl, trivial⟩ rfl⟩
        · exact ⟨by omega, by rw [hd]; exact Sp.dval_step hV a i _ (by omega) (by omega) (by rw [if_pos hc2])⟩
        · omega
      · intro hc2; (try simp only [bs] at hc2); refine f_skip (f_nil ?_); show AWs _ _ _ _ _
        refine f_back ⟨(l.getD (i - 2).toNat (0, 0, 0)).2.1, ?_, ?_, le_ofL ⟨rfl, rfl, rfl, rfl, rfl, trivial⟩ rfl⟩
        · exact ⟨by omega, by rw [hd]; exact Sp.dval_step hV a i _ (by omega) (by omega) (by rw [if_neg (by rw [hc2]; decide)])⟩
        · omega
    · intro hc1; (try simp only [bs] at hc1); refine f_exit ?_; show AWs _ _ _ _ _; refine f_seq (f_region (zm1 rfl rfl rfl ?_)); refine zq (p_eql rfl Zz Zz) rfl (zm2 rfl rfl rfl (snil (f_ret ?_)))
      refine ends_ret (res_eq (res1 rfl (res_tmp rfl (Sees.of rfl))) ?_)
      rw [hd, Sp.dval_end a i hi.1 (by omega)]

theorem Made_spec (n : Nat) (p : List Bool → Bool) (hn : n ≤ 16) :
    SpecN Go.Proofs.Try.prog 25 [iv n, .val (.fn (α := { z : List Bool // z.length = n }) (fun z => .cons (bools z.1) .nil) (fun z => .bool (p z.1)))] 5 1 1 dby (Sp.btab p n) := by
  refine specN_of' Go.Proofs.Try.func25 rfl Go.Proofs.Try.ntmps25 rfl ?_
  refine f_seq ?_
  have hpw := Sp.pow_ok (m := n) (by omega)
  have hp16 := Sp.pow16 hn
  refine f_region (zm5 rfl rfl rfl (snil (f_seq (f_region (zm1 rfl rfl rfl ?_))))); refine zq (p_shl rfl Zz Zz (by omega) (by omega) (by first | omega | assumption)) rfl ?_; refine scons (r_make (m := 2 ^ n) (f := dby) (z := 0) (ob := 10009) rfl wDia2_isl42 wDia2_siz5 wDia2_byt5 wDia2_zer5 rfl rfl rfl (fun _ _ => rfl) (Sees.of (congrArg (fun q => AV.val (.int .i64 q)) (Sp.pow_nat n))) (by omega) (by omega) rfl rfl rfl rfl rfl) (zm4 rfl rfl rfl (snil (f_seq (f_seq (f_region (zm3 rfl rfl rfl ?_)))))); refine zq (p_lenR rfl wDia2_isl42 Zz rfl) rfl (zm1 rfl rfl rfl (snil (f_block ?_)))
  refine f_loop (α := Nat) (fun i => i ≤ 2 ^ n) (fun i => [(12, iv i), (11, iv (2 ^ n : Nat)), (5, .row 10009 0), (10009, .arr 0 5 1 1 dby 0 ((Sp.btab p n).take i ++ List.replicate (2 ^ n - i) 0)), (0, iv n), (1, .val (.fn (α := { z : List Bool // z.length = n }) (fun z => .cons (bools z.1) .nil) (fun z => .bool (p z.1)))), (4, .emp)]) (fun i => 2 ^ n - i) 0 ?_ ?_ ?_
  · exact Nat.zero_le _
  · exact le_ofL ⟨rfl, (by show AV.val (.int .i64 ((List.replicate (2 ^ n) (0 : Int)).length : Nat)) = _; rw [List.length_replicate]), rfl, rfl, rfl, rfl, rfl, trivial⟩ rfl
  · rintro i hi
    have hi : i ≤ 2 ^ n := hi
    refine f_seq (f_region ?_); refine zq (p_lss rfl Zz Zz) rfl (snil (f_seq (f_cond rfl ?_ ?_)))
    · intro hc1; (try simp only [bs] at hc1); refine f_skip (f_seq (f_block (f_seq (f_region (zm1 rfl rfl rfl (zm2 rfl rfl rfl (snil (f_seq (f_region (zm1 rfl rfl rfl (zm1 rfl rfl rfl (zm1 rfl rfl rfl ?_)))))))))))); refine scons (r_callS (q := false) (ob := 10018) false rfl wDia2_isf42 (assignment_spec n i (by omega)) (sa_cons (sh_of Zz rfl) (sa_cons (sh_of Zz rfl) (sa_nil))) (.inl rfl) rfl rfl rfl rfl rfl) ?_; refine zc (c_callV (q := true) (⟨Sp.bits n i, Sp.bits_length n i⟩) rfl Zz rfl (sa_cons (sh_row Zz rfl) (sa_nil)) rfl) rfl (snil (f_cond rfl ?_ ?_))
      · intro hc2; (try simp only [bs] at hc2); refine f_region (zm3 rfl rfl rfl (zm1 rfl rfl rfl ?_)); refine zq ((by first | exact p_indexR rfl wDia2_isl42 wDia2_siz5 Zz rfl Zz (by simp only [List.length_append, List.length_take, List.length_replicate, Sp.btab_len]; omega) | exact p_indexRZ rfl wDia2_isl42 wDia2_siz5 Zz rfl Zz (by omega) (by simp only [List.length_append, List.length_take, List.length_replicate, Sp.btab_len]; omega))) rfl ?_; refine scons (r_storeE rfl wDia2_siz5 rfl rfl rfl Zz rfl (by simp only [List.length_append, List.length_take, List.length_replicate, Sp.btab_len]; omega) Zz rfl) ?_; refine snil (f_nil ?_); show AWs _ _ _ _ _; refine f_region ?_; refine zq (p_add rfl Zz Zz (by omega)) rfl (zm1 rfl rfl rfl (snil ?_))
        refine f_back ⟨i + 1, ?_, ?_, le_ofL ⟨rfl, rfl, rfl, (by rw [← Sp.btab_yes (by omega) hc2]; rfl), rfl, rfl, rfl, trivial⟩ rfl⟩
        · omega
        · omega
      · intro hc2; (try simp only [bs] at hc2); refine f_skip (f_nil ?_); show AWs _ _ _ _ _; refine f_region ?_; refine zq (p_add rfl Zz Zz (by omega)) rfl (zm1 rfl rfl rfl (snil ?_))
        refine f_back ⟨i + 1, ?_, ?_, le_ofL ⟨rfl, rfl, rfl, (by rw [← Sp.btab_no (by omega) hc2]; rfl), rfl, rfl, rfl, trivial⟩ rfl⟩
        · omega
        · omega
    · intro hc1; (try simp only [bs] at hc1); refine f_exit ?_; show AWs _ _ _ _ _; refine f_seq (f_region (zm3 rfl rfl rfl (zm4 rfl rfl rfl (snil (f_ret ?_)))))
      refine endsN_ret (resN_eq (resN_row rfl rfl rfl rfl) ?_)
      obtain rfl : i = 2 ^ n := by omega
      rw [List.take_of_length_le (by rw [Sp.btab_len]; omega), Nat.sub_self, List.replicate_zero, List.append_nil]

theorem tableOf1_spec (n : Nat) (l : List Sp.Cho) (r : Int) (hc : (Sp.diaCheck n l r).1 = 0) (a : List Bool) (ha : a.length = n) :
    Spec Go.Proofs.Try.prog 39 [.val (bools a), .ptr (dia l r)] (D.bool (Sp.dvalue l r a)) := by
  refine spec_of' Go.Proofs.Try.func39 rfl Go.Proofs.Try.ntmps39 rfl ?_
  refine f_seq (f_region (zm2 rfl rfl rfl (snil (f_seq (f_region ?_))))); refine zq (p_loadS rfl wDia2_agg29 wDia2_siz29 Zz ⟨rfl, fun h => R_len rfl h⟩) rfl (zm1 rfl rfl rfl ?_); refine zc (c_call rfl wDia2_isf40 ⟨_, _, rfl, Zz, rfl, ⟨_, _, rfl, Zz, rfl, rfl⟩⟩ (value_spec n l r a hc (by omega))) rfl (zm2 rfl rfl rfl (snil (f_ret ?_)))
  refine ends_ret (res_eq (res1 rfl (res_tmp rfl (Sees.of rfl))) ?_)
  rfl

theorem tableOf_spec (n : Nat) (l : List Sp.Cho) (r : Int) (hc : (Sp.diaCheck n l r).1 = 0) :
    SpecN Go.Proofs.Try.prog 23 [iv n, .val (dia l r)] 5 1 1 dby (Sp.btab (Sp.dvalue l r) n) := by
  refine specN_of' Go.Proofs.Try.func23 rfl Go.Proofs.Try.ntmps23 rfl ?_
  refine f_seq ?_
  have hok := Sp.dia_ok hc
  refine f_region ?_; refine scons (r_box (ob := 10003) rfl Zz rfl rfl rfl rfl rfl rfl) (zm5 rfl rfl rfl (snil (f_seq (f_region (zm1 rfl rfl rfl ?_))))); refine zq (p_makeFunc (l := [.tmp 3]) rfl) rfl ?_; refine scons (r_callS (q := true) (ob := 10007) 0 rfl wDia2_isf25 (Made_spec n (Sp.dvalue l r) (by omega)) (sa_cons (sh_of Zz rfl) (sa_cons (sh_clo Zz wDia2_isf39 (sl_cons (sh_refS Sees.same rfl (shc_cons (sh_of Sees.same rfl) (shc_cons (sh_of Sees.same rfl) (shc_nil)))) (sl_nil)) (fun _ => rfl) (fun _ => rfl) (fun a => tableOf1_spec n l r hc a.1 a.2)) (sa_nil))) (.inr (fun _ => rfl)) rfl rfl rfl rfl rfl) (zm4 rfl rfl rfl (snil (f_ret ?_)))
  refine endsN_ret (resN_eq (resN_row rfl rfl rfl rfl) ?_)
  rfl

end Go.Um
