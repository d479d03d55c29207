/- Walks of Go functions of this seat, each by its contract. No condition beyond what each theorem says. -/
import Derived.Test.YtfjafkocejoigaaGreatWDia5
import Derived.Test.YtfjafkocejoigaaGreatProg
import Derived.KernelRfl
import Derived.Test.YtfjafkocejoigaaGreatQ
set_option maxRecDepth 4000
namespace Go.Um
open Go Go.RowKit

theorem wDia6_agg5 : IsAgg Go.Proofs.Tryz.prog 5 false := by unfold IsAgg; kernel_rfl
theorem wDia6_byt5 : Bytes Go.Proofs.Tryz.prog 5 1 := by unfold Bytes; kernel_rfl
theorem wDia6_int3 : IsInt Go.Proofs.Tryz.prog 3 .i64 := by unfold IsInt; kernel_rfl
theorem wDia6_int5 : IsInt Go.Proofs.Tryz.prog 5 .u8 := by unfold IsInt; kernel_rfl
theorem wDia6_isf232 : IsFn Go.Proofs.Tryz.prog 232 := by unfold IsFn; kernel_rfl
theorem wDia6_isl164 : IsSlice Go.Proofs.Tryz.prog 164 5 := by unfold IsSlice; kernel_rfl
theorem wDia6_mix : (Go.Proofs.Tryz.prog).follows .mixedOrders = true := by kernel_rfl
theorem wDia6_siz5 : Size Go.Proofs.Tryz.prog 5 1 := by unfold Size; kernel_rfl
theorem wDia6_zer5 : Zero Go.Proofs.Tryz.prog 5 (.int .u8 0) := by unfold Zero; kernel_rfl

theorem cloneT_spec (a : List Int) :
    SpecN Go.Proofs.Tryz.prog 232 [.val (bytes a)] 5 1 1 dby a := by
  refine specN_of' Go.Proofs.Tryz.func232 rfl Go.Proofs.Tryz.ntmps232 rfl ?_
  refine f_seq ?_
  refine f_wf (.tmp 0) rfl (fun hwf => ?_) (by simp)
  have hlen : a.length ≤ 140737488355328 := hwf.1
  clear hwf
  refine f_sl 0 rfl rfl (fun b hb => ?_) (by simp)
  refine f_region (zm5 rfl rfl rfl (snil (f_seq (f_seq (f_region (zm1 rfl rfl rfl ?_)))))); refine zq (p_eqlNil rfl wDia6_isl164 rfl rfl) rfl (snil (f_cond rfl ?_ ?_))
  · intro hc1; (try simp only [bs] at hc1); refine f_seq (f_region (zm5 rfl rfl rfl (snil (f_ret ?_))))
    refine endsN_ret (resN_eq (resN_emp rfl rfl rfl rfl) ?_)
    exact (hb hc1).symm
  · intro hc1; (try simp only [bs] at hc1); refine f_skip (f_seq (f_region ?_)); refine scons (r_buildRow (f := dby) (za := 0) (xs := []) (by_ := 1) (ob := 10005) rfl rfl wDia6_isl164 wDia6_siz5 wDia6_zer5 rfl rfl (by decide) rfl rfl rfl rfl rfl rfl) (zm1 rfl rfl rfl ?_); refine scons (r_appendR (ob := 10005) rfl wDia6_isl164 wDia6_siz5 wDia6_byt5 wDia6_zer5 rfl rfl Zz rfl (Sees.sl rfl) (by simp only [List.length_cons, List.length_nil, List.length_append]; omega) (by simp only [List.length_cons, List.length_nil, List.length_append]; omega) rfl rfl rfl rfl rfl) ?_; refine zm4 rfl rfl rfl (snil (f_ret ?_))
    refine endsN_ret (resN_eq (resN_row rfl rfl rfl rfl) ?_)
    rfl

theorem Combined_spec (n : Nat) (op : Int) (p q : List Bool → Bool) (hn : n ≤ 16) (hop : 0 ≤ op ∧ op ≤ 15) :
    SpecN Go.Proofs.Tryz.prog 226 [iv op, .val (bytes (Sp.btab p n)), .val (bytes (Sp.btab q n))] 5 1 1 dby (Sp.btab (fun a => Sp.comb op (p a) (q a)) n) := by
  refine specN_of' Go.Proofs.Tryz.func226 rfl Go.Proofs.Tryz.ntmps226 rfl ?_
  refine f_seq ?_
  have hp16 := Sp.pow16 hn
  have hl1 := Sp.btab_len p n
  have hl2 := Sp.btab_len q n
  refine f_region (zm5 rfl rfl rfl (snil (f_seq (f_region (zm1 rfl rfl rfl ?_))))); refine scons (r_callS (q := false) (ob := 10010) 0 rfl wDia6_isf232 (cloneT_spec (Sp.btab p n)) (sa_cons (sh_of Zz rfl) (sa_nil)) (.inl rfl) rfl rfl rfl rfl rfl) (zm4 rfl rfl rfl (snil (f_seq (f_seq (f_region (zm3 rfl rfl rfl ?_)))))); refine zq (p_lenR rfl wDia6_isl164 Zz rfl) rfl (zm1 rfl rfl rfl (snil (f_block ?_)))
  refine f_loop (α := Nat) (fun i => i ≤ 2 ^ n) (fun i => [(13, iv i), (12, iv (2 ^ n : Nat)), (7, .row 10010 0), (10010, .arr 0 5 1 1 dby 0 (Sp.fillTo (2 ^ n) (fun k : Nat => Sp.b01 (p (Sp.bits n k))) (fun k : Nat => Sp.b01 (Sp.comb op (p (Sp.bits n k)) (q (Sp.bits n k)))) i)), (0, iv op), (1, .val (bytes (Sp.btab p n))), (2, .val (bytes (Sp.btab q n))), (6, .emp)]) (fun i => 2 ^ n - i) 0 ?_ ?_ ?_
  · exact Nat.zero_le _
  · exact le_ofL ⟨rfl, (by rw [← Sp.btab_len p n]; rfl), rfl, (by rw [Sp.fill_zero, ← Sp.btab_map]; rfl), rfl, rfl, rfl, rfl, trivial⟩ rfl
  · rintro i hi
    have hi : i ≤ 2 ^ n := hi
    have hfl := Sp.fill_len (2 ^ n) (fun k : Nat => Sp.b01 (p (Sp.bits n k))) (fun k : Nat => Sp.b01 (Sp.comb op (p (Sp.bits n k)) (q (Sp.bits n k)))) i
    refine f_seq (f_region ?_); refine zq (p_lss rfl Zz Zz) rfl (snil (f_seq (f_cond rfl ?_ ?_)))
    · intro hc1; (try simp only [bs] at hc1); refine f_skip (f_seq (f_block (f_seq (f_region (zm1 rfl rfl rfl (zm2 rfl rfl rfl (snil ?_)))))))
      have hb1 := Sp.btab_at p n i (by omega)
      have hP := Sp.b01_le (p (Sp.bits n i))
      have hb2 := Sp.btab_at q n i (by omega)
      have hQ := Sp.b01_le (q (Sp.bits n i))
      have hw : IntKind.u8.wrap (IntKind.u8.wrap (2 * (Sp.btab p n).getD i 0) + (Sp.btab q n).getD i 0) = 2 * Sp.b01 (p (Sp.bits n i)) + Sp.b01 (q (Sp.bits n i)) := by rw [hb1, hb2]; exact Sp.comb_sum
      refine f_draw wDia6_mix (by kernel_rfl) ?_; refine yq (p_move (y := .row _ _) rfl Zz rfl) rfl (zd1 rfl rfl rfl (zd1 rfl rfl rfl (zd1 rfl rfl rfl (zd1 rfl rfl rfl ?_)))); refine yq ((by first | exact p_indexN rfl wDia6_isl164 wDia6_siz5 Zz Zz (by omega) | exact p_index rfl wDia6_isl164 wDia6_siz5 Zz Zz (by omega) (by omega))) rfl ?_; refine yq (p_load rfl wDia6_agg5 Zz rfl) rfl ?_; refine yq (p_mulW rfl Zz Zz) rfl (zd1 rfl rfl rfl (zd1 rfl rfl rfl ?_)); refine yq ((by first | exact p_indexN rfl wDia6_isl164 wDia6_siz5 Zz Zz (by omega) | exact p_index rfl wDia6_isl164 wDia6_siz5 Zz Zz (by omega) (by omega))) rfl ?_; refine yq (p_load rfl wDia6_agg5 Zz rfl) rfl ?_; refine yq (p_addW rfl Zz Zz) rfl ?_
      rw [hw]
      refine yq (p_shr rfl Zz Zz (by omega) (by omega)) rfl ?_; refine yq (p_and1 rfl Zz Zz) rfl ?_; refine yq (p_conv rfl wDia6_int3 wDia6_int5 Zz) rfl ?_; refine yq ((by first | exact p_indexR rfl wDia6_isl164 wDia6_siz5 Zz rfl Zz (by rw [hfl]; omega) | exact p_indexRZ rfl wDia6_isl164 wDia6_siz5 Zz rfl Zz (by omega) (by rw [hfl]; omega))) rfl ?_; refine dcons (r_storeE rfl wDia6_siz5 rfl rfl rfl Zz rfl (by rw [hfl]; omega) Zz rfl) ?_; refine dnil (by kernel_rfl) (f_nil ?_); show AWs _ _ _ _ _; refine f_region ?_; refine zq (p_add rfl Zz Zz (by omega)) rfl (zm1 rfl rfl rfl (snil ?_))
      refine f_back ⟨i + 1, ?_, ?_, le_ofL ⟨rfl, rfl, rfl, (by rw [← Sp.fill_to (by omega) (Sp.comb_wrap op (p (Sp.bits n i)) (q (Sp.bits n i)))]; rfl), rfl, rfl, rfl, rfl, trivial⟩ rfl⟩
      · omega
      · omega
    · intro hc1; (try simp only [bs] at hc1); refine f_exit ?_; show AWs _ _ _ _ _; refine f_seq (f_region (zm3 rfl rfl rfl (zm4 rfl rfl rfl (snil (f_ret ?_)))))
      refine endsN_ret (resN_eq (resN_row rfl rfl rfl rfl) ?_)
      rw [Sp.fill_end _ _ (by omega), Sp.btab_map]

end Go.Um
