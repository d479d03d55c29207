/- Walks of Go functions of this seat, each by its contract. No condition beyond what each theorem says. -/
import Derived.Test.YtpjenbbalengoaaWDia
import Derived.Test.YtpjenbbalengoaaPC
import Derived.Test.YtpjenbbalengoaaProg
import Derived.KernelRfl
set_option maxRecDepth 4000
namespace Go.Um
open Go Go.RowKit

theorem wDia2_agg3 : IsAgg Go.Proofs.Try.prog 3 false := by unfold IsAgg; kernel_rfl
theorem wDia2_agg4 : IsAgg Go.Proofs.Try.prog 4 false := by unfold IsAgg; kernel_rfl
theorem wDia2_agg65 : IsAgg Go.Proofs.Try.prog 65 false := by unfold IsAgg; kernel_rfl
theorem wDia2_byt5 : Bytes Go.Proofs.Try.prog 5 1 := by unfold Bytes; kernel_rfl
theorem wDia2_fld67_0 : IsField Go.Proofs.Try.prog 67 0 0 65 := by unfold IsField; kernel_rfl
theorem wDia2_fld67_1 : IsField Go.Proofs.Try.prog 67 1 1 3 := by unfold IsField; kernel_rfl
theorem wDia2_fld79_0 : IsField Go.Proofs.Try.prog 79 0 0 3 := by unfold IsField; kernel_rfl
theorem wDia2_fld79_1 : IsField Go.Proofs.Try.prog 79 1 1 3 := by unfold IsField; kernel_rfl
theorem wDia2_fld79_2 : IsField Go.Proofs.Try.prog 79 2 2 3 := by unfold IsField; kernel_rfl
theorem wDia2_isf159 : IsFn Go.Proofs.Try.prog 159 := by unfold IsFn; kernel_rfl
theorem wDia2_isl141 : IsSlice Go.Proofs.Try.prog 141 5 := by unfold IsSlice; kernel_rfl
theorem wDia2_isl24 : IsSlice Go.Proofs.Try.prog 24 4 := by unfold IsSlice; kernel_rfl
theorem wDia2_isl65 : IsSlice Go.Proofs.Try.prog 65 79 := by unfold IsSlice; kernel_rfl
theorem wDia2_siz3 : Size Go.Proofs.Try.prog 3 1 := by unfold Size; kernel_rfl
theorem wDia2_siz4 : Size Go.Proofs.Try.prog 4 1 := by unfold Size; kernel_rfl
theorem wDia2_siz5 : Size Go.Proofs.Try.prog 5 1 := by unfold Size; kernel_rfl
theorem wDia2_siz65 : Size Go.Proofs.Try.prog 65 1 := by unfold Size; kernel_rfl
theorem wDia2_siz79 : Size Go.Proofs.Try.prog 79 3 := by unfold Size; kernel_rfl
theorem wDia2_zer5 : Zero Go.Proofs.Try.prog 5 (.int .u8 0) := by unfold Zero; kernel_rfl

theorem valueR_spec (n : Int) (l : List Sp.Cho) (r : Int) (a : List Bool) (hc : (Sp.diaCheck n l r).1 = 0) (ha : (a.length : Int) = n) :
    Spec Go.Proofs.Try.prog 41 [.val (dia l r), .val (bools a)] (D.bool (Sp.dvalue l r a)) := by
  refine spec_of' Go.Proofs.Try.func41 rfl Go.Proofs.Try.ntmps41 rfl ?_
  refine f_seq ?_
  have hok := Sp.dia_ok hc
  have hV := Sp.valid_of hok.2.2.1
  have hln := hok.2.1
  refine f_wf (.tmp 1) rfl (fun hwf => ?_) (by simp)
  have hlen : a.length ≤ 140737488355328 := hwf.1
  clear hwf
  refine f_region ?_
  refine scons (r_box (ob := 10002) rfl (Sees.of rfl) rfl rfl rfl rfl rfl rfl) ?_
  refine scons (CStep.step (PStep.c (p_assign (y := .val _) rfl (Sees.of rfl) rfl)) rfl rfl rfl rfl) ?_
  refine snil ?_
  refine f_seq ?_
  refine f_region ?_
  refine scons (CStep.step (PStep.c (p_fieldRef rfl wDia2_fld67_1 wDia2_siz3 rfl (Sees.of rfl) rfl)) rfl rfl rfl rfl) ?_
  refine scons (CStep.step (PStep.c (p_loadB (y := .val _) rfl wDia2_agg3 (Sees.of rfl) rfl rfl rfl rfl)) rfl rfl rfl rfl) ?_
  refine scons (CStep.step (PStep.c (p_assign (y := .val _) rfl (Sees.of rfl) rfl)) rfl rfl rfl rfl) ?_
  refine snil ?_
  refine f_seq ?_
  refine f_block ?_
  refine f_loop (α := Int) (fun i => (0 ≤ i ∧ i < l.length + 2) ∧ Sp.dvalue l r a = Sp.dval l a i.toNat i) (fun i => [(5, iv i), (1, .val (bools a)), (2, .ref 10002 0 0), (4, bv false), (10002, .box 0 (.ccons (.val (chos l)) (.ccons (iv r) .cnil)))]) (fun i => i.toNat) r ?_ ?_ ?_
  · exact ⟨hok.2.2.2.1, rfl⟩
  · exact le_ofL ⟨rfl, rfl, rfl, rfl, rfl, trivial⟩ rfl
  · rintro i ⟨hi, hd⟩
    refine f_seq ?_
    refine f_seq ?_
    refine f_region ?_
    refine scons (CStep.step (PStep.c (p_move (y := .val _) rfl (Sees.of rfl) rfl)) rfl rfl rfl rfl) ?_
    refine scons (CStep.step (PStep.c (p_gtr rfl (Sees.of rfl) (Sees.of rfl))) rfl rfl rfl rfl) ?_
    refine snil ?_
    refine f_cond rfl ?_ ?_
    · intro hc1
      try simp only [bs] at hc1
      refine f_skip ?_
      refine f_block ?_
      refine f_seq ?_
      have hv := hV (i - 2).toNat (by omega)
      have hw := Sp.cho_ok (hok.2.2.1 (i - 2).toNat (by omega))
      refine f_region ?_
      refine scons (CStep.step (PStep.c (p_move (y := .val _) rfl (Sees.of rfl) rfl)) rfl rfl rfl rfl) ?_
      refine scons (CStep.step (PStep.c (p_fieldRef rfl wDia2_fld67_0 wDia2_siz65 rfl (Sees.of rfl) rfl)) rfl rfl rfl rfl) ?_
      refine scons (CStep.step (PStep.c (p_loadB (y := .val _) rfl wDia2_agg65 (Sees.of rfl) rfl rfl rfl rfl)) rfl rfl rfl rfl) ?_
      refine scons (CStep.step (PStep.c (p_move (y := .val _) rfl (Sees.of rfl) rfl)) rfl rfl rfl rfl) ?_
      refine scons (CStep.step (PStep.c (p_sub rfl (Sees.of rfl) (Sees.of rfl) (by omega))) rfl rfl rfl rfl) ?_
      refine scons (CStep.step (PStep.c ((by first | exact p_indexN rfl wDia2_isl65 wDia2_siz79 (Sees.of rfl) (Sees.of rfl) (by omega) | exact p_index rfl wDia2_isl65 wDia2_siz79 (Sees.of rfl) (Sees.of rfl) (by omega) (by omega)))) rfl rfl rfl rfl) ?_
      refine scons (CStep.step (PStep.c (p_fieldAddr rfl wDia2_fld79_0 wDia2_siz3 (by decide) (Sees.of rfl) rfl rfl)) rfl rfl rfl rfl) ?_
      refine scons (CStep.step (PStep.c (p_load rfl wDia2_agg3 (Sees.of rfl) rfl)) rfl rfl rfl rfl) ?_
      refine scons (CStep.step (PStep.c (p_sub rfl (Sees.of rfl) (Sees.of rfl) (by omega))) rfl rfl rfl rfl) ?_
      refine scons (CStep.step (PStep.c ((by first | exact p_indexN rfl wDia2_isl24 wDia2_siz4 (Sees.of rfl) (Sees.of rfl) (by omega) | exact p_index rfl wDia2_isl24 wDia2_siz4 (Sees.of rfl) (Sees.of rfl) (by omega) (by omega)))) rfl rfl rfl rfl) ?_
      refine scons (CStep.step (PStep.c (p_load rfl wDia2_agg4 (Sees.of rfl) rfl)) rfl rfl rfl rfl) ?_
      refine snil ?_
      refine f_cond rfl ?_ ?_
      · intro hc2
        try simp only [bs] at hc2
        refine f_region ?_
        refine scons (CStep.step (PStep.c (p_fieldRef rfl wDia2_fld67_0 wDia2_siz65 rfl (Sees.of rfl) rfl)) rfl rfl rfl rfl) ?_
        refine scons (CStep.step (PStep.c (p_loadB (y := .val _) rfl wDia2_agg65 (Sees.of rfl) rfl rfl rfl rfl)) rfl rfl rfl rfl) ?_
        refine scons (CStep.step (PStep.c (p_move (y := .val _) rfl (Sees.of rfl) rfl)) rfl rfl rfl rfl) ?_
        refine scons (CStep.step (PStep.c (p_sub rfl (Sees.of rfl) (Sees.of rfl) (by omega))) rfl rfl rfl rfl) ?_
        refine scons (CStep.step (PStep.c ((by first | exact p_indexN rfl wDia2_isl65 wDia2_siz79 (Sees.of rfl) (Sees.of rfl) (by omega) | exact p_index rfl wDia2_isl65 wDia2_siz79 (Sees.of rfl) (Sees.of rfl) (by omega) (by omega)))) rfl rfl rfl rfl) ?_
        refine scons (CStep.step (PStep.c (p_fieldAddr rfl wDia2_fld79_2 wDia2_siz3 (by decide) (Sees.of rfl) rfl rfl)) rfl rfl rfl rfl) ?_
        refine scons (CStep.step (PStep.c (p_load rfl wDia2_agg3 (Sees.of rfl) rfl)) rfl rfl rfl rfl) ?_
        refine scons (CStep.step (PStep.c (p_assign (y := .val _) rfl (Sees.of rfl) rfl)) rfl rfl rfl rfl) ?_
        refine snil ?_
        refine f_nil ?_
        show AWs _ _ _ _ _
        refine f_back ⟨(l.getD (i - 2).toNat (0, 0, 0)).2.2, ?_, ?_, le_ofL ⟨rfl, rfl, rfl, rfl, rfl, trivial⟩ rfl⟩
        · exact ⟨by omega, by rw [hd]; exact Sp.dval_step hV a i _ (by omega) (by omega) (by rw [if_pos hc2])⟩
        · omega
      · intro hc2
        try simp only [bs] at hc2
        refine f_region ?_
        refine scons (CStep.step (PStep.c (p_fieldRef rfl wDia2_fld67_0 wDia2_siz65 rfl (Sees.of rfl) rfl)) rfl rfl rfl rfl) ?_
        refine scons (CStep.step (PStep.c (p_loadB (y := .val _) rfl wDia2_agg65 (Sees.of rfl) rfl rfl rfl rfl)) rfl rfl rfl rfl) ?_
        refine scons (CStep.step (PStep.c (p_move (y := .val _) rfl (Sees.of rfl) rfl)) rfl rfl rfl rfl) ?_
        refine scons (CStep.step (PStep.c (p_sub rfl (Sees.of rfl) (Sees.of rfl) (by omega))) rfl rfl rfl rfl) ?_
        refine scons (CStep.step (PStep.c ((by first | exact p_indexN rfl wDia2_isl65 wDia2_siz79 (Sees.of rfl) (Sees.of rfl) (by omega) | exact p_index rfl wDia2_isl65 wDia2_siz79 (Sees.of rfl) (Sees.of rfl) (by omega) (by omega)))) rfl rfl rfl rfl) ?_
        refine scons (CStep.step (PStep.c (p_fieldAddr rfl wDia2_fld79_1 wDia2_siz3 (by decide) (Sees.of rfl) rfl rfl)) rfl rfl rfl rfl) ?_
        refine scons (CStep.step (PStep.c (p_load rfl wDia2_agg3 (Sees.of rfl) rfl)) rfl rfl rfl rfl) ?_
        refine scons (CStep.step (PStep.c (p_assign (y := .val _) rfl (Sees.of rfl) rfl)) rfl rfl rfl rfl) ?_
        refine snil ?_
        refine f_nil ?_
        show AWs _ _ _ _ _
        refine f_back ⟨(l.getD (i - 2).toNat (0, 0, 0)).2.1, ?_, ?_, le_ofL ⟨rfl, rfl, rfl, rfl, rfl, trivial⟩ rfl⟩
        · exact ⟨by omega, by rw [hd]; exact Sp.dval_step hV a i _ (by omega) (by omega) (by rw [if_neg (by rw [hc2]; decide)])⟩
        · omega
    · intro hc1
      try simp only [bs] at hc1
      refine f_exit ?_
      show AWs _ _ _ _ _
      refine f_seq ?_
      refine f_region ?_
      refine scons (CStep.step (PStep.c (p_move (y := .val _) rfl (Sees.of rfl) rfl)) rfl rfl rfl rfl) ?_
      refine scons (CStep.step (PStep.c (p_eql rfl (Sees.of rfl) (Sees.of rfl))) rfl rfl rfl rfl) ?_
      refine scons (CStep.step (PStep.c (p_assign (y := .val _) rfl (Sees.of rfl) rfl)) rfl rfl rfl rfl) ?_
      refine snil ?_
      refine f_ret ?_
      refine ends_ret (res_eq (res1 rfl (res_tmp rfl (Sees.of rfl))) ?_)
      rw [hd, Sp.dval_end a i hi.1 (by omega)]

theorem Made_spec (n : Nat) (p : List Bool → Bool) (hn : n ≤ 16) :
    SpecN Go.Proofs.Try.prog 131 [iv n, .val (.fn (α := { z : List Bool // z.length = n }) (fun z => .cons (bools z.1) .nil) (fun z => .bool (p z.1)))] 5 1 1 dby (Sp.btab p n) := by
  refine specN_of' Go.Proofs.Try.func131 rfl Go.Proofs.Try.ntmps131 rfl ?_
  refine f_seq ?_
  have hpw := Sp.pow_ok (m := n) (by omega)
  have hp16 := Sp.pow16 hn
  refine f_region ?_
  refine scons (CStep.step (PStep.c (p_assign (y := .emp) rfl (Sees.of rfl) rfl)) rfl rfl rfl rfl) ?_
  refine snil ?_
  refine f_seq ?_
  refine f_region ?_
  refine scons (CStep.step (PStep.c (p_move (y := .val _) rfl (Sees.of rfl) rfl)) rfl rfl rfl rfl) ?_
  refine scons (CStep.step (PStep.c (p_shl rfl (Sees.of rfl) (Sees.of rfl) (by omega) (by omega) (by first | omega | assumption))) rfl rfl rfl rfl) ?_
  refine scons (r_make (m := 2 ^ n) (f := dby) (z := 0) (ob := 10009) rfl wDia2_isl141 wDia2_siz5 wDia2_byt5 wDia2_zer5 rfl rfl rfl (fun _ _ => rfl) (Sees.of (congrArg (fun q => AV.val (.int .i64 q)) (Sp.pow_nat n))) (by omega) (by omega) rfl rfl rfl rfl rfl) ?_
  refine scons (CStep.step (PStep.c (p_assign (y := .row _ _) rfl (Sees.of rfl) rfl)) rfl rfl rfl rfl) ?_
  refine snil ?_
  refine f_seq ?_
  refine f_seq ?_
  refine f_region ?_
  refine scons (CStep.step (PStep.c (p_move (y := .row _ _) rfl (Sees.of rfl) rfl)) rfl rfl rfl rfl) ?_
  refine scons (CStep.step (PStep.c (p_lenR rfl wDia2_isl141 (Sees.of rfl) rfl)) rfl rfl rfl rfl) ?_
  refine scons (CStep.step (PStep.c (p_move (y := .val _) rfl (Sees.of rfl) rfl)) rfl rfl rfl rfl) ?_
  refine snil ?_
  refine f_block ?_
  refine f_loop (α := Nat) (fun i => i ≤ 2 ^ n) (fun i => [(12, iv i), (11, iv (2 ^ n : Nat)), (5, .row 10009 0), (10009, .arr 0 5 1 1 dby 0 ((Sp.btab p n).take i ++ List.replicate (2 ^ n - i) 0)), (0, iv n), (1, .val (.fn (α := { z : List Bool // z.length = n }) (fun z => .cons (bools z.1) .nil) (fun z => .bool (p z.1)))), (4, .emp)]) (fun i => 2 ^ n - i) 0 ?_ ?_ ?_
  · exact Nat.zero_le _
  · exact le_ofL ⟨rfl, (by show AV.val (.int .i64 ((List.replicate (2 ^ n) (0 : Int)).length : Nat)) = _; rw [List.length_replicate]), rfl, rfl, rfl, rfl, rfl, trivial⟩ rfl
  · rintro i hi
    have hi : i ≤ 2 ^ n := hi
    refine f_seq ?_
    refine f_region ?_
    refine scons (CStep.step (PStep.c (p_lss rfl (Sees.of rfl) (Sees.of rfl))) rfl rfl rfl rfl) ?_
    refine snil ?_
    refine f_seq ?_
    refine f_cond rfl ?_ ?_
    · intro hc1
      try simp only [bs] at hc1
      refine f_skip ?_
      refine f_seq ?_
      refine f_block ?_
      refine f_seq ?_
      refine f_region ?_
      refine scons (CStep.step (PStep.c (p_move (y := .val _) rfl (Sees.of rfl) rfl)) rfl rfl rfl rfl) ?_
      refine scons (CStep.step (PStep.c (p_assign (y := .val _) rfl (Sees.of rfl) rfl)) rfl rfl rfl rfl) ?_
      refine snil ?_
      refine f_seq ?_
      refine f_region ?_
      refine scons (CStep.step (PStep.c (p_move (y := .val _) rfl (Sees.of rfl) rfl)) rfl rfl rfl rfl) ?_
      refine scons (CStep.step (PStep.c (p_move (y := .val _) rfl (Sees.of rfl) rfl)) rfl rfl rfl rfl) ?_
      refine scons (CStep.step (PStep.c (p_move (y := .val _) rfl (Sees.of rfl) rfl)) rfl rfl rfl rfl) ?_
      refine scons (r_callS (q := false) (ob := 10018) false rfl wDia2_isf159 (assignment_spec n i (by omega)) (sa_cons (sh_of (Sees.of rfl) rfl) (sa_cons (sh_of (Sees.of rfl) rfl) (sa_nil))) (.inl rfl) rfl rfl rfl rfl rfl) ?_
      refine scons (CStep.step (c_callV (q := true) (⟨Sp.bits n i, Sp.bits_length n i⟩) rfl (Sees.of rfl) rfl (sa_cons (sh_row (Sees.of rfl) rfl) (sa_nil)) rfl) rfl rfl rfl rfl) ?_
      refine snil ?_
      refine f_cond rfl ?_ ?_
      · intro hc2
        try simp only [bs] at hc2
        refine f_region ?_
        refine scons (CStep.step (PStep.c (p_move (y := .row _ _) rfl (Sees.of rfl) rfl)) rfl rfl rfl rfl) ?_
        refine scons (CStep.step (PStep.c (p_move (y := .val _) rfl (Sees.of rfl) rfl)) rfl rfl rfl rfl) ?_
        refine scons (CStep.step (PStep.c ((by first | exact p_indexR rfl wDia2_isl141 wDia2_siz5 (Sees.of rfl) rfl (Sees.of rfl) (by simp only [List.length_append, List.length_take, List.length_replicate, Sp.btab_len]; omega) | exact p_indexRZ rfl wDia2_isl141 wDia2_siz5 (Sees.of rfl) rfl (Sees.of rfl) (by omega) (by simp only [List.length_append, List.length_take, List.length_replicate, Sp.btab_len]; omega)))) rfl rfl rfl rfl) ?_
        refine scons (r_storeE rfl wDia2_siz5 rfl rfl rfl (Sees.of rfl) rfl (by simp only [List.length_append, List.length_take, List.length_replicate, Sp.btab_len]; omega) (Sees.of rfl) rfl) ?_
        refine snil ?_
        refine f_nil ?_
        show AWs _ _ _ _ _
        refine f_region ?_
        refine scons (CStep.step (PStep.c (p_add rfl (Sees.of rfl) (Sees.of rfl) (by omega))) rfl rfl rfl rfl) ?_
        refine scons (CStep.step (PStep.c (p_move (y := .val _) rfl (Sees.of rfl) rfl)) rfl rfl rfl rfl) ?_
        refine snil ?_
        refine f_back ⟨i + 1, ?_, ?_, le_ofL ⟨rfl, rfl, rfl, (by rw [← Sp.btab_yes (by omega) hc2]; rfl), rfl, rfl, rfl, trivial⟩ rfl⟩
        · omega
        · omega
      · intro hc2
        try simp only [bs] at hc2
        refine f_skip ?_
        refine f_nil ?_
        show AWs _ _ _ _ _
        refine f_region ?_
        refine scons (CStep.step (PStep.c (p_add rfl (Sees.of rfl) (Sees.of rfl) (by omega))) rfl rfl rfl rfl) ?_
        refine scons (CStep.step (PStep.c (p_move (y := .val _) rfl (Sees.of rfl) rfl)) rfl rfl rfl rfl) ?_
        refine snil ?_
        refine f_back ⟨i + 1, ?_, ?_, le_ofL ⟨rfl, rfl, rfl, (by rw [← Sp.btab_no (by omega) hc2]; rfl), rfl, rfl, rfl, trivial⟩ rfl⟩
        · omega
        · omega
    · intro hc1
      try simp only [bs] at hc1
      refine f_exit ?_
      show AWs _ _ _ _ _
      refine f_seq ?_
      refine f_region ?_
      refine scons (CStep.step (PStep.c (p_move (y := .row _ _) rfl (Sees.of rfl) rfl)) rfl rfl rfl rfl) ?_
      refine scons (CStep.step (PStep.c (p_assign (y := .row _ _) rfl (Sees.of rfl) rfl)) rfl rfl rfl rfl) ?_
      refine snil ?_
      refine f_ret ?_
      refine endsN_ret (resN_eq (resN_row rfl rfl rfl rfl) ?_)
      obtain rfl : i = 2 ^ n := by omega
      rw [List.take_of_length_le (by rw [Sp.btab_len]; omega), Nat.sub_self, List.replicate_zero, List.append_nil]

end Go.Um
