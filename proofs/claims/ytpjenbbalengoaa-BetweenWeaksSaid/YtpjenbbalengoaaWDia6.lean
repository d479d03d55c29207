/- Walks of Go functions of this seat, each by its contract. No condition beyond what each theorem says. -/
import Derived.Test.YtpjenbbalengoaaWDia5
import Derived.Test.YtpjenbbalengoaaProg
import Derived.KernelRfl
set_option maxRecDepth 4000
namespace Go.Um
open Go Go.RowKit

theorem wDia6_agg5 : IsAgg Go.Proofs.Try.prog 5 false := by unfold IsAgg; kernel_rfl
theorem wDia6_byt5 : Bytes Go.Proofs.Try.prog 5 1 := by unfold Bytes; kernel_rfl
theorem wDia6_int3 : IsInt Go.Proofs.Try.prog 3 .i64 := by unfold IsInt; kernel_rfl
theorem wDia6_int5 : IsInt Go.Proofs.Try.prog 5 .u8 := by unfold IsInt; kernel_rfl
theorem wDia6_isf164 : IsFn Go.Proofs.Try.prog 164 := by unfold IsFn; kernel_rfl
theorem wDia6_isl141 : IsSlice Go.Proofs.Try.prog 141 5 := by unfold IsSlice; kernel_rfl
theorem wDia6_mix : (Go.Proofs.Try.prog).follows .mixedOrders = true := by kernel_rfl
theorem wDia6_siz5 : Size Go.Proofs.Try.prog 5 1 := by unfold Size; kernel_rfl
theorem wDia6_zer5 : Zero Go.Proofs.Try.prog 5 (.int .u8 0) := by unfold Zero; kernel_rfl

theorem cloneT_spec (a : List Int) :
    SpecN Go.Proofs.Try.prog 164 [.val (bytes a)] 5 1 1 dby a := by
  refine specN_of' Go.Proofs.Try.func164 rfl Go.Proofs.Try.ntmps164 rfl ?_
  refine f_seq ?_
  refine f_wf (.tmp 0) rfl (fun hwf => ?_) (by simp)
  have hlen : a.length ≤ 140737488355328 := hwf.1
  clear hwf
  refine f_sl 0 rfl rfl (fun b hb => ?_) (by simp)
  refine f_region ?_
  refine scons (CStep.step (PStep.c (p_assign (y := .emp) rfl (Sees.of rfl) rfl)) rfl rfl rfl rfl) ?_
  refine snil ?_
  refine f_seq ?_
  refine f_seq ?_
  refine f_region ?_
  refine scons (CStep.step (PStep.c (p_move (y := .val _) rfl (Sees.of rfl) rfl)) rfl rfl rfl rfl) ?_
  refine scons (CStep.step (PStep.c (p_eqlNil rfl wDia6_isl141 rfl rfl)) rfl rfl rfl rfl) ?_
  refine snil ?_
  refine f_cond rfl ?_ ?_
  · intro hc1
    try simp only [bs] at hc1
    refine f_seq ?_
    refine f_region ?_
    refine scons (CStep.step (PStep.c (p_assign (y := .emp) rfl (Sees.of rfl) rfl)) rfl rfl rfl rfl) ?_
    refine snil ?_
    refine f_ret ?_
    refine endsN_ret (resN_eq (resN_emp rfl rfl rfl rfl) ?_)
    exact (hb hc1).symm
  · intro hc1
    try simp only [bs] at hc1
    refine f_skip ?_
    refine f_seq ?_
    refine f_region ?_
    refine scons (r_buildRow (f := dby) (za := 0) (xs := []) (by_ := 1) (ob := 10005) rfl rfl wDia6_isl141 wDia6_siz5 wDia6_zer5 rfl rfl (by decide) rfl rfl rfl rfl rfl rfl) ?_
    refine scons (CStep.step (PStep.c (p_move (y := .val _) rfl (Sees.of rfl) rfl)) rfl rfl rfl rfl) ?_
    refine scons (r_appendR (ob := 10005) rfl wDia6_isl141 wDia6_siz5 wDia6_byt5 wDia6_zer5 rfl rfl (Sees.of rfl) rfl (Sees.sl rfl) (by simp only [List.length_cons, List.length_nil, List.length_append]; omega) (by simp only [List.length_cons, List.length_nil, List.length_append]; omega) rfl rfl rfl rfl rfl) ?_
    refine scons (CStep.step (PStep.c (p_assign (y := .row _ _) rfl (Sees.of rfl) rfl)) rfl rfl rfl rfl) ?_
    refine snil ?_
    refine f_ret ?_
    refine endsN_ret (resN_eq (resN_row rfl rfl rfl rfl) ?_)
    rfl

theorem Combined_spec (n : Nat) (op : Int) (p q : List Bool → Bool) (hn : n ≤ 16) (hop : 0 ≤ op ∧ op ≤ 15) :
    SpecN Go.Proofs.Try.prog 225 [iv op, .val (bytes (Sp.btab p n)), .val (bytes (Sp.btab q n))] 5 1 1 dby (Sp.btab (fun a => Sp.comb op (p a) (q a)) n) := by
  refine specN_of' Go.Proofs.Try.func225 rfl Go.Proofs.Try.ntmps225 rfl ?_
  refine f_seq ?_
  have hp16 := Sp.pow16 hn
  have hl1 := Sp.btab_len p n
  have hl2 := Sp.btab_len q n
  refine f_region ?_
  refine scons (CStep.step (PStep.c (p_assign (y := .emp) rfl (Sees.of rfl) rfl)) rfl rfl rfl rfl) ?_
  refine snil ?_
  refine f_seq ?_
  refine f_region ?_
  refine scons (CStep.step (PStep.c (p_move (y := .val _) rfl (Sees.of rfl) rfl)) rfl rfl rfl rfl) ?_
  refine scons (r_callS (q := false) (ob := 10010) 0 rfl wDia6_isf164 (cloneT_spec (Sp.btab p n)) (sa_cons (sh_of (Sees.of rfl) rfl) (sa_nil)) (.inl rfl) rfl rfl rfl rfl rfl) ?_
  refine scons (CStep.step (PStep.c (p_assign (y := .row _ _) rfl (Sees.of rfl) rfl)) rfl rfl rfl rfl) ?_
  refine snil ?_
  refine f_seq ?_
  refine f_seq ?_
  refine f_region ?_
  refine scons (CStep.step (PStep.c (p_move (y := .row _ _) rfl (Sees.of rfl) rfl)) rfl rfl rfl rfl) ?_
  refine scons (CStep.step (PStep.c (p_lenR rfl wDia6_isl141 (Sees.of rfl) rfl)) rfl rfl rfl rfl) ?_
  refine scons (CStep.step (PStep.c (p_move (y := .val _) rfl (Sees.of rfl) rfl)) rfl rfl rfl rfl) ?_
  refine snil ?_
  refine f_block ?_
  refine f_loop (α := Nat) (fun i => i ≤ 2 ^ n) (fun i => [(13, iv i), (12, iv (2 ^ n : Nat)), (7, .row 10010 0), (10010, .arr 0 5 1 1 dby 0 (Sp.fillTo (2 ^ n) (fun k : Nat => Sp.b01 (p (Sp.bits n k))) (fun k : Nat => Sp.b01 (Sp.comb op (p (Sp.bits n k)) (q (Sp.bits n k)))) i)), (0, iv op), (1, .val (bytes (Sp.btab p n))), (2, .val (bytes (Sp.btab q n))), (6, .emp)]) (fun i => 2 ^ n - i) 0 ?_ ?_ ?_
  · exact Nat.zero_le _
  · exact le_ofL ⟨rfl, (by rw [← Sp.btab_len p n]; rfl), rfl, (by rw [Sp.fill_zero, ← Sp.btab_map]; rfl), rfl, rfl, rfl, rfl, trivial⟩ rfl
  · rintro i hi
    have hi : i ≤ 2 ^ n := hi
    have hfl := Sp.fill_len (2 ^ n) (fun k : Nat => Sp.b01 (p (Sp.bits n k))) (fun k : Nat => Sp.b01 (Sp.comb op (p (Sp.bits n k)) (q (Sp.bits n k)))) i
    refine f_seq ?_
    refine f_region ?_
    refine scons (CStep.step (PStep.c (p_lss rfl (Sees.of rfl) (Sees.of rfl))) rfl rfl rfl rfl) ?_
    refine snil ?_
    refine f_seq ?_
    refine f_cond rfl ?_ ?_
    · intro hc1
      try simp only [bs] at hc1
      refine f_skip ?_
      refine f_seq ?_
      refine f_block ?_
      refine f_seq ?_
      refine f_region ?_
      refine scons (CStep.step (PStep.c (p_move (y := .val _) rfl (Sees.of rfl) rfl)) rfl rfl rfl rfl) ?_
      refine scons (CStep.step (PStep.c (p_assign (y := .val _) rfl (Sees.of rfl) rfl)) rfl rfl rfl rfl) ?_
      refine snil ?_
      have hb1 := Sp.btab_at p n i (by omega)
      have hP := Sp.b01_le (p (Sp.bits n i))
      have hb2 := Sp.btab_at q n i (by omega)
      have hQ := Sp.b01_le (q (Sp.bits n i))
      have hw : IntKind.u8.wrap (IntKind.u8.wrap (2 * (Sp.btab p n).getD i 0) + (Sp.btab q n).getD i 0) = 2 * Sp.b01 (p (Sp.bits n i)) + Sp.b01 (q (Sp.bits n i)) := by rw [hb1, hb2]; exact Sp.comb_sum
      refine f_draw wDia6_mix (by kernel_rfl) ?_
      refine dcons (CStep.step (PStep.c (p_move (y := .row _ _) rfl (Sees.of rfl) rfl)) rfl rfl rfl rfl) ?_
      refine dcons (CStep.step (PStep.c (p_move (y := .val _) rfl (Sees.of rfl) rfl)) rfl rfl rfl rfl) ?_
      refine dcons (CStep.step (PStep.c (p_move (y := .val _) rfl (Sees.of rfl) rfl)) rfl rfl rfl rfl) ?_
      refine dcons (CStep.step (PStep.c (p_move (y := .val _) rfl (Sees.of rfl) rfl)) rfl rfl rfl rfl) ?_
      refine dcons (CStep.step (PStep.c (p_move (y := .val _) rfl (Sees.of rfl) rfl)) rfl rfl rfl rfl) ?_
      refine dcons (CStep.step (PStep.c ((by first | exact p_indexN rfl wDia6_isl141 wDia6_siz5 (Sees.of rfl) (Sees.of rfl) (by omega) | exact p_index rfl wDia6_isl141 wDia6_siz5 (Sees.of rfl) (Sees.of rfl) (by omega) (by omega)))) rfl rfl rfl rfl) ?_
      refine dcons (CStep.step (PStep.c (p_load rfl wDia6_agg5 (Sees.of rfl) rfl)) rfl rfl rfl rfl) ?_
      refine dcons (CStep.step (PStep.c (p_mulW rfl (Sees.of rfl) (Sees.of rfl))) rfl rfl rfl rfl) ?_
      refine dcons (CStep.step (PStep.c (p_move (y := .val _) rfl (Sees.of rfl) rfl)) rfl rfl rfl rfl) ?_
      refine dcons (CStep.step (PStep.c (p_move (y := .val _) rfl (Sees.of rfl) rfl)) rfl rfl rfl rfl) ?_
      refine dcons (CStep.step (PStep.c ((by first | exact p_indexN rfl wDia6_isl141 wDia6_siz5 (Sees.of rfl) (Sees.of rfl) (by omega) | exact p_index rfl wDia6_isl141 wDia6_siz5 (Sees.of rfl) (Sees.of rfl) (by omega) (by omega)))) rfl rfl rfl rfl) ?_
      refine dcons (CStep.step (PStep.c (p_load rfl wDia6_agg5 (Sees.of rfl) rfl)) rfl rfl rfl rfl) ?_
      refine dcons (CStep.step (PStep.c (p_addW rfl (Sees.of rfl) (Sees.of rfl))) rfl rfl rfl rfl) ?_
      rw [hw]
      refine dcons (CStep.step (PStep.c (p_shr rfl (Sees.of rfl) (Sees.of rfl) (by omega) (by omega))) rfl rfl rfl rfl) ?_
      refine dcons (CStep.step (PStep.c (p_and1 rfl (Sees.of rfl) (Sees.of rfl))) rfl rfl rfl rfl) ?_
      refine dcons (CStep.step (PStep.c (p_conv rfl wDia6_int3 wDia6_int5 (Sees.of rfl))) rfl rfl rfl rfl) ?_
      refine dcons (CStep.step (PStep.c ((by first | exact p_indexR rfl wDia6_isl141 wDia6_siz5 (Sees.of rfl) rfl (Sees.of rfl) (by rw [hfl]; omega) | exact p_indexRZ rfl wDia6_isl141 wDia6_siz5 (Sees.of rfl) rfl (Sees.of rfl) (by omega) (by rw [hfl]; omega)))) rfl rfl rfl rfl) ?_
      refine dcons (r_storeE rfl wDia6_siz5 rfl rfl rfl (Sees.of rfl) rfl (by rw [hfl]; omega) (Sees.of rfl) rfl) ?_
      refine dnil (by kernel_rfl) ?_
      refine f_nil ?_
      show AWs _ _ _ _ _
      refine f_region ?_
      refine scons (CStep.step (PStep.c (p_add rfl (Sees.of rfl) (Sees.of rfl) (by omega))) rfl rfl rfl rfl) ?_
      refine scons (CStep.step (PStep.c (p_move (y := .val _) rfl (Sees.of rfl) rfl)) rfl rfl rfl rfl) ?_
      refine snil ?_
      refine f_back ⟨i + 1, ?_, ?_, le_ofL ⟨rfl, rfl, rfl, (by rw [← Sp.fill_to (by omega) (Sp.comb_wrap op (p (Sp.bits n i)) (q (Sp.bits n i)))]; rfl), rfl, rfl, rfl, rfl, trivial⟩ rfl⟩
      · omega
      · omega
    · intro hc1
      try simp only [bs] at hc1
      refine f_exit ?_
      show AWs _ _ _ _ _
      refine f_seq ?_
      refine f_region ?_
      refine scons (CStep.step (PStep.c (p_move (y := .row _ _) rfl (Sees.of rfl) rfl)) rfl rfl rfl rfl) ?_
      refine scons (CStep.step (PStep.c (p_assign (y := .row _ _) rfl (Sees.of rfl) rfl)) rfl rfl rfl rfl) ?_
      refine snil ?_
      refine f_ret ?_
      refine endsN_ret (resN_eq (resN_row rfl rfl rfl rfl) ?_)
      rw [Sp.fill_end _ _ (by omega), Sp.btab_map]

theorem Forget_spec (n : Nat) (p : List Bool → Bool) (v : Int) (hn : n ≤ 16) (hv : 1 ≤ v ∧ v ≤ n) :
    SpecN Go.Proofs.Try.prog 138 [.val (bytes (Sp.btab p n)), iv n, iv v] 5 1 1 dby (Sp.btab (Sp.some2 p v) n) := by
  refine specN_of' Go.Proofs.Try.func138 rfl Go.Proofs.Try.ntmps138 rfl ?_
  refine f_seq ?_
  have hp16 := Sp.pow16 hn
  have hl1 := Sp.btab_len p n
  have hpv : ((n : Int) - v).toNat = n - v.toNat := by omega
  have hpw := Sp.pow_ok (m := n - v.toNat) (by omega)
  have hpn : (1 : Int) * 2 ^ ((n : Int) - v).toNat = ((2 ^ (n - v.toNat) : Nat) : Int) := by rw [hpv]; simp
  have hpl : 2 ^ (n - v.toNat) ≤ 65536 := Sp.pow16 (by omega)
  have hpw2 : -9223372036854775808 ≤ (1 : Int) * 2 ^ ((n : Int) - v).toNat ∧ (1 : Int) * 2 ^ ((n : Int) - v).toNat ≤ 9223372036854775807 := by
    rw [hpn]
    exact ⟨Int.le_trans (by decide) (Int.natCast_nonneg _), Int.le_trans (Int.ofNat_le.2 hpl) (by decide)⟩
  refine f_region ?_
  refine scons (CStep.step (PStep.c (p_assign (y := .emp) rfl (Sees.of rfl) rfl)) rfl rfl rfl rfl) ?_
  refine snil ?_
  refine f_seq ?_
  refine f_region ?_
  refine scons (CStep.step (PStep.c (p_move (y := .val _) rfl (Sees.of rfl) rfl)) rfl rfl rfl rfl) ?_
  refine scons (r_callS (q := false) (ob := 10011) 0 rfl wDia6_isf164 (cloneT_spec (Sp.btab p n)) (sa_cons (sh_of (Sees.of rfl) rfl) (sa_nil)) (.inl rfl) rfl rfl rfl rfl rfl) ?_
  refine scons (CStep.step (PStep.c (p_assign (y := .row _ _) rfl (Sees.of rfl) rfl)) rfl rfl rfl rfl) ?_
  refine snil ?_
  refine f_seq ?_
  refine f_region ?_
  refine scons (CStep.step (PStep.c (p_move (y := .val _) rfl (Sees.of rfl) rfl)) rfl rfl rfl rfl) ?_
  refine scons (CStep.step (PStep.c (p_move (y := .val _) rfl (Sees.of rfl) rfl)) rfl rfl rfl rfl) ?_
  refine scons (CStep.step (PStep.c (p_sub rfl (Sees.of rfl) (Sees.of rfl) (by omega))) rfl rfl rfl rfl) ?_
  refine scons (CStep.step (PStep.c (p_shl rfl (Sees.of rfl) (Sees.of rfl) (by omega) (by omega) (by first | omega | assumption))) rfl rfl rfl rfl) ?_
  refine scons (CStep.step (PStep.c (p_assign (y := .val _) rfl (Sees.of rfl) rfl)) rfl rfl rfl rfl) ?_
  refine snil ?_
  refine f_seq ?_
  refine f_seq ?_
  refine f_region ?_
  refine scons (CStep.step (PStep.c (p_move (y := .row _ _) rfl (Sees.of rfl) rfl)) rfl rfl rfl rfl) ?_
  refine scons (CStep.step (PStep.c (p_lenR rfl wDia6_isl141 (Sees.of rfl) rfl)) rfl rfl rfl rfl) ?_
  refine scons (CStep.step (PStep.c (p_move (y := .val _) rfl (Sees.of rfl) rfl)) rfl rfl rfl rfl) ?_
  refine snil ?_
  refine f_block ?_
  refine f_loop (α := Nat) (fun i => i ≤ 2 ^ n) (fun i => [(18, iv i), (17, iv (2 ^ n : Nat)), (8, iv (2 ^ (n - v.toNat) : Nat)), (7, .row 10011 0), (10011, .arr 0 5 1 1 dby 0 (Sp.fillTo (2 ^ n) (fun k : Nat => Sp.b01 (p (Sp.bits n k))) (fun k : Nat => Sp.b01 (Sp.some2 p v (Sp.bits n k))) i)), (0, .val (bytes (Sp.btab p n))), (6, .emp)]) (fun i => 2 ^ n - i) 0 ?_ ?_ ?_
  · exact Nat.zero_le _
  · exact le_ofL ⟨rfl, (by rw [← Sp.btab_len p n]; rfl), (by rw [← hpn]; rfl), rfl, (by rw [Sp.fill_zero, ← Sp.btab_map]; rfl), rfl, rfl, trivial⟩ rfl
  · rintro i hi
    have hi : i ≤ 2 ^ n := hi
    have hfl := Sp.fill_len (2 ^ n) (fun k : Nat => Sp.b01 (p (Sp.bits n k))) (fun k : Nat => Sp.b01 (Sp.some2 p v (Sp.bits n k))) i
    refine f_seq ?_
    refine f_region ?_
    refine scons (CStep.step (PStep.c (p_lss rfl (Sees.of rfl) (Sees.of rfl))) rfl rfl rfl rfl) ?_
    refine snil ?_
    refine f_seq ?_
    refine f_cond rfl ?_ ?_
    · intro hc1
      try simp only [bs] at hc1
      refine f_skip ?_
      refine f_seq ?_
      refine f_block ?_
      refine f_seq ?_
      refine f_region ?_
      refine scons (CStep.step (PStep.c (p_move (y := .val _) rfl (Sees.of rfl) rfl)) rfl rfl rfl rfl) ?_
      refine scons (CStep.step (PStep.c (p_assign (y := .val _) rfl (Sees.of rfl) rfl)) rfl rfl rfl rfl) ?_
      refine snil ?_
      have hb1 := Sp.btab_at p n i (by omega)
      have hP := Sp.b01_le (p (Sp.bits n i))
      have hxl := Sp.xor_lt (n := n) (i := i) (v := v.toNat) (by omega) (by omega) (by omega)
      have hb2 := Sp.btab_at p n ((i ^^^ 2 ^ (n - v.toNat) : Nat)) hxl
      refine f_draw wDia6_mix (by kernel_rfl) ?_
      refine dcons (CStep.step (PStep.c (p_move (y := .row _ _) rfl (Sees.of rfl) rfl)) rfl rfl rfl rfl) ?_
      refine dcons (CStep.step (PStep.c (p_move (y := .val _) rfl (Sees.of rfl) rfl)) rfl rfl rfl rfl) ?_
      refine dcons (CStep.step (PStep.c (p_move (y := .val _) rfl (Sees.of rfl) rfl)) rfl rfl rfl rfl) ?_
      refine dcons (CStep.step (PStep.c (p_move (y := .val _) rfl (Sees.of rfl) rfl)) rfl rfl rfl rfl) ?_
      refine dcons (CStep.step (PStep.c ((by first | exact p_indexN rfl wDia6_isl141 wDia6_siz5 (Sees.of rfl) (Sees.of rfl) (by omega) | exact p_index rfl wDia6_isl141 wDia6_siz5 (Sees.of rfl) (Sees.of rfl) (by omega) (by omega)))) rfl rfl rfl rfl) ?_
      refine dcons (CStep.step (PStep.c (p_load rfl wDia6_agg5 (Sees.of rfl) rfl)) rfl rfl rfl rfl) ?_
      refine dcons (CStep.step (PStep.c (p_move (y := .val _) rfl (Sees.of rfl) rfl)) rfl rfl rfl rfl) ?_
      refine dcons (CStep.step (PStep.c (p_move (y := .val _) rfl (Sees.of rfl) rfl)) rfl rfl rfl rfl) ?_
      refine dcons (CStep.step (PStep.c (p_move (y := .val _) rfl (Sees.of rfl) rfl)) rfl rfl rfl rfl) ?_
      refine dcons (CStep.step (PStep.c (p_xorN rfl (Sees.of rfl) (Sees.of rfl) (by omega) (by omega))) rfl rfl rfl rfl) ?_
      refine dcons (CStep.step (PStep.c ((by first | exact p_indexN rfl wDia6_isl141 wDia6_siz5 (Sees.of rfl) (Sees.of rfl) (by rw [hl1]; exact hxl) | exact p_index rfl wDia6_isl141 wDia6_siz5 (Sees.of rfl) (Sees.of rfl) (by omega) (by rw [hl1]; exact hxl)))) rfl rfl rfl rfl) ?_
      refine dcons (CStep.step (PStep.c (p_load rfl wDia6_agg5 (Sees.of rfl) rfl)) rfl rfl rfl rfl) ?_
      refine dcons (CStep.step (PStep.c (p_or8 (a := p (Sp.bits n i)) (b := p (Sp.bits n (((i ^^^ 2 ^ (n - v.toNat) : Nat)) : Int))) rfl (Sees.of (congrArg (fun q => AV.val (.int .u8 q)) hb1)) (Sees.of (congrArg (fun q => AV.val (.int .u8 q)) hb2)))) rfl rfl rfl rfl) ?_
      refine dcons (CStep.step (PStep.c ((by first | exact p_indexR rfl wDia6_isl141 wDia6_siz5 (Sees.of rfl) rfl (Sees.of rfl) (by rw [hfl]; omega) | exact p_indexRZ rfl wDia6_isl141 wDia6_siz5 (Sees.of rfl) rfl (Sees.of rfl) (by omega) (by rw [hfl]; omega)))) rfl rfl rfl rfl) ?_
      refine dcons (r_storeE rfl wDia6_siz5 rfl rfl rfl (Sees.of rfl) rfl (by rw [hfl]; omega) (Sees.of rfl) rfl) ?_
      refine dnil (by kernel_rfl) ?_
      refine f_nil ?_
      show AWs _ _ _ _ _
      refine f_region ?_
      refine scons (CStep.step (PStep.c (p_add rfl (Sees.of rfl) (Sees.of rfl) (by omega))) rfl rfl rfl rfl) ?_
      refine scons (CStep.step (PStep.c (p_move (y := .val _) rfl (Sees.of rfl) rfl)) rfl rfl rfl rfl) ?_
      refine snil ?_
      refine f_back ⟨i + 1, ?_, ?_, le_ofL ⟨rfl, rfl, rfl, rfl, (by rw [← Sp.fill_to (by omega) (Sp.some_xor p hv)]; rfl), rfl, rfl, trivial⟩ rfl⟩
      · omega
      · omega
    · intro hc1
      try simp only [bs] at hc1
      refine f_exit ?_
      show AWs _ _ _ _ _
      refine f_seq ?_
      refine f_region ?_
      refine scons (CStep.step (PStep.c (p_move (y := .row _ _) rfl (Sees.of rfl) rfl)) rfl rfl rfl rfl) ?_
      refine scons (CStep.step (PStep.c (p_assign (y := .row _ _) rfl (Sees.of rfl) rfl)) rfl rfl rfl rfl) ?_
      refine snil ?_
      refine f_ret ?_
      refine endsN_ret (resN_eq (resN_row rfl rfl rfl rfl) ?_)
      rw [Sp.fill_end _ _ (by omega), Sp.btab_map]

end Go.Um
