/- Walks of Go functions of this seat, each by its contract. No condition beyond what each theorem says. -/
import Derived.Test.YtfjafkocejoigaaWDia5
import Derived.Test.YtfjafkocejoigaaProg
import Derived.KernelRfl
import Derived.Test.YtfjafkocejoigaaQ
set_option maxRecDepth 4000
namespace Go.Um
open Go Go.RowKit

theorem wDia6_agg29 : IsAgg Go.Proofs.Try.prog 29 true := by unfold IsAgg; kernel_rfl
theorem wDia6_agg3 : IsAgg Go.Proofs.Try.prog 3 false := by unfold IsAgg; kernel_rfl
theorem wDia6_agg31 : IsAgg Go.Proofs.Try.prog 31 true := by unfold IsAgg; kernel_rfl
theorem wDia6_agg5 : IsAgg Go.Proofs.Try.prog 5 false := by unfold IsAgg; kernel_rfl
theorem wDia6_byt5 : Bytes Go.Proofs.Try.prog 5 1 := by unfold Bytes; kernel_rfl
theorem wDia6_fld31_0 : IsField Go.Proofs.Try.prog 31 0 0 3 := by unfold IsField; kernel_rfl
theorem wDia6_int3 : IsInt Go.Proofs.Try.prog 3 .i64 := by unfold IsInt; kernel_rfl
theorem wDia6_int5 : IsInt Go.Proofs.Try.prog 5 .u8 := by unfold IsInt; kernel_rfl
theorem wDia6_isf13 : IsFn Go.Proofs.Try.prog 13 := by unfold IsFn; kernel_rfl
theorem wDia6_isf21 : IsFn Go.Proofs.Try.prog 21 := by unfold IsFn; kernel_rfl
theorem wDia6_isf22 : IsFn Go.Proofs.Try.prog 22 := by unfold IsFn; kernel_rfl
theorem wDia6_isf23 : IsFn Go.Proofs.Try.prog 23 := by unfold IsFn; kernel_rfl
theorem wDia6_isf38 : IsFn Go.Proofs.Try.prog 38 := by unfold IsFn; kernel_rfl
theorem wDia6_isl42 : IsSlice Go.Proofs.Try.prog 42 5 := by unfold IsSlice; kernel_rfl
theorem wDia6_mix : (Go.Proofs.Try.prog).follows .mixedOrders = true := by kernel_rfl
theorem wDia6_plc29 : Places Go.Proofs.Try.prog 29 [(0, 1), (1, 1)] := by unfold Places; kernel_rfl
theorem wDia6_plc31 : Places Go.Proofs.Try.prog 31 [(0, 1), (1, 1)] := by unfold Places; kernel_rfl
theorem wDia6_siz29 : Size Go.Proofs.Try.prog 29 2 := by unfold Size; kernel_rfl
theorem wDia6_siz3 : Size Go.Proofs.Try.prog 3 1 := by unfold Size; kernel_rfl
theorem wDia6_siz31 : Size Go.Proofs.Try.prog 31 2 := by unfold Size; kernel_rfl
theorem wDia6_siz5 : Size Go.Proofs.Try.prog 5 1 := by unfold Size; kernel_rfl
def wDia6_z29 : D := .cons (chos []) (.cons (.int .i64 0) (.nil))
theorem wDia6_zch29 : ∀ (ok : Nat → Prop) (w : World), R Go.Proofs.Try.prog wDia6_z29 ok w (Value.cells (.agg #[(.slice none 0 0), (.int .i64 0)])).toList := fun _ _ => z_list (z_int (z_nil))
def wDia6_z31 : D := .cons (.int .i64 0) (.cons (.int .i64 0) (.nil))
theorem wDia6_zch31 : ∀ (ok : Nat → Prop) (w : World), R Go.Proofs.Try.prog wDia6_z31 ok w (Value.cells (.agg #[(.int .i64 0), (.int .i64 0)])).toList := fun _ _ => z_int (z_int (z_nil))
theorem wDia6_zer29 : Zero Go.Proofs.Try.prog 29 (.agg #[(.slice none 0 0), (.int .i64 0)]) := by unfold Zero; kernel_rfl
theorem wDia6_zer31 : Zero Go.Proofs.Try.prog 31 (.agg #[(.int .i64 0), (.int .i64 0)]) := by unfold Zero; kernel_rfl
theorem wDia6_zer5 : Zero Go.Proofs.Try.prog 5 (.int .u8 0) := by unfold Zero; kernel_rfl

theorem cloneT_spec (a : List Int) :
    SpecN Go.Proofs.Try.prog 38 [.val (bytes a)] 5 1 1 dby a := by
  refine specN_of' Go.Proofs.Try.func38 rfl Go.Proofs.Try.ntmps38 rfl ?_
  refine f_seq ?_
  refine f_wf (.tmp 0) rfl (fun hwf => ?_) (by simp)
  have hlen : a.length ≤ 140737488355328 := hwf.1
  clear hwf
  refine f_sl 0 rfl rfl (fun b hb => ?_) (by simp)
  refine f_region (zm5 rfl rfl rfl (snil (f_seq (f_seq (f_region (zm1 rfl rfl rfl ?_)))))); refine zq (p_eqlNil rfl wDia6_isl42 rfl rfl) rfl (snil (f_cond rfl ?_ ?_))
  · intro hc1; (try simp only [bs] at hc1); refine f_seq (f_region (zm5 rfl rfl rfl (snil (f_ret ?_))))
    refine endsN_ret (resN_eq (resN_emp rfl rfl rfl rfl) ?_)
    exact (hb hc1).symm
  · intro hc1; (try simp only [bs] at hc1); refine f_skip (f_seq (f_region ?_)); refine scons (r_buildRow (f := dby) (za := 0) (xs := []) (by_ := 1) (ob := 10005) rfl rfl wDia6_isl42 wDia6_siz5 wDia6_zer5 rfl rfl (by decide) rfl rfl rfl rfl rfl rfl) (zm1 rfl rfl rfl ?_); refine scons (r_appendR (ob := 10005) rfl wDia6_isl42 wDia6_siz5 wDia6_byt5 wDia6_zer5 rfl rfl Zz rfl (Sees.sl rfl) (by simp only [List.length_cons, List.length_nil, List.length_append]; omega) (by simp only [List.length_cons, List.length_nil, List.length_append]; omega) rfl rfl rfl rfl rfl) ?_; refine zm4 rfl rfl rfl (snil (f_ret ?_))
    refine endsN_ret (resN_eq (resN_row rfl rfl rfl rfl) ?_)
    rfl

theorem Combined_spec (n : Nat) (op : Int) (p q : List Bool → Bool) (hn : n ≤ 16) (hop : 0 ≤ op ∧ op ≤ 15) :
    SpecN Go.Proofs.Try.prog 22 [iv op, .val (bytes (Sp.btab p n)), .val (bytes (Sp.btab q n))] 5 1 1 dby (Sp.btab (fun a => Sp.comb op (p a) (q a)) n) := by
  refine specN_of' Go.Proofs.Try.func22 rfl Go.Proofs.Try.ntmps22 rfl ?_
  refine f_seq ?_
  have hp16 := Sp.pow16 hn
  have hl1 := Sp.btab_len p n
  have hl2 := Sp.btab_len q n
  refine f_region (zm5 rfl rfl rfl (snil (f_seq (f_region (zm1 rfl rfl rfl ?_))))); refine scons (r_callS (q := false) (ob := 10010) 0 rfl wDia6_isf38 (cloneT_spec (Sp.btab p n)) (sa_cons (sh_of Zz rfl) (sa_nil)) (.inl rfl) rfl rfl rfl rfl rfl) (zm4 rfl rfl rfl (snil (f_seq (f_seq (f_region (zm3 rfl rfl rfl ?_)))))); refine zq (p_lenR rfl wDia6_isl42 Zz rfl) rfl (zm1 rfl rfl rfl (snil (f_block ?_)))
  refine f_loop (α := Nat) (fun i => i ≤ 2 ^ n) (fun i => [(13, iv i), (12, iv (2 ^ n : Nat)), (7, .row 10010 0), (10010, .arr 0 5 1 1 dby 0 (Sp.fillTo (2 ^ n) (fun k : Nat => Sp.b01 (p (Sp.bits n k))) (fun k : Nat => Sp.b01 (Sp.comb op (p (Sp.bits n k)) (q (Sp.bits n k)))) i)), (0, iv op), (1, .val (bytes (Sp.btab p n))), (2, .val (bytes (Sp.btab q n))), (6, .emp)]) (fun i => 2 ^ n - i) 0 ?_ ?_ ?_
  · exact Nat.zero_le _
  · exact le_ofL ⟨rfl, (by rw [← Sp.btab_len p n]; rfl), rfl, (by rw [Sp.fill_zero, ← Sp.btab_map]; rfl), rfl, rfl, rfl, rfl, trivial⟩ rfl
  · rintro i hi
    have hi : i ≤ 2 ^ n := hi
    have hfl := Sp.fill_len (2 ^ n) (fun k : Nat => Sp.b01 (p (Sp.bits n k))) (fun k : Nat => Sp.b01 (Sp.comb op (p (Sp.bits n k)) (q (Sp.bits n k)))) i
    refine f_seq (f_region ?_); refine zq (p_lss rfl Zz Zz) rfl (snil (f_seq (f_cond rfl ?_ ?_)))
    · intro hc1; (try simp only [bs] at hc1); refine f_skip (f_seq (f_block (f_seq (f_region (zm1 rfl rfl rfl (zm2 rfl rfl rfl (snil ?_)))))))
      have hb1 := Sp.btab_at p n i (by omega)
      have hP := Sp.b01_le (p (Sp.bits n i))
      have hb2 := Sp.btab_at q n i (by omega)
      have hQ := Sp.b01_le (q (Sp.bits n i))
      have hw : IntKind.u8.wrap (IntKind.u8.wrap (2 * (Sp.btab p n).getD i 0) + (Sp.btab q n).getD i 0) = 2 * Sp.b01 (p (Sp.bits n i)) + Sp.b01 (q (Sp.bits n i)) := by rw [hb1, hb2]; exact Sp.comb_sum
      refine f_draw wDia6_mix (by kernel_rfl) ?_; refine yq (p_move (y := .row _ _) rfl Zz rfl) rfl (zd1 rfl rfl rfl (zd1 rfl rfl rfl (zd1 rfl rfl rfl (zd1 rfl rfl rfl ?_)))); refine yq ((by first | exact p_indexN rfl wDia6_isl42 wDia6_siz5 Zz Zz (by omega) | exact p_index rfl wDia6_isl42 wDia6_siz5 Zz Zz (by omega) (by omega))) rfl ?_; refine yq (p_load rfl wDia6_agg5 Zz rfl) rfl ?_; refine yq (p_mulW rfl Zz Zz) rfl (zd1 rfl rfl rfl (zd1 rfl rfl rfl ?_)); refine yq ((by first | exact p_indexN rfl wDia6_isl42 wDia6_siz5 Zz Zz (by omega) | exact p_index rfl wDia6_isl42 wDia6_siz5 Zz Zz (by omega) (by omega))) rfl ?_; refine yq (p_load rfl wDia6_agg5 Zz rfl) rfl ?_; refine yq (p_addW rfl Zz Zz) rfl ?_
      rw [hw]
      refine yq (p_shr rfl Zz Zz (by omega) (by omega)) rfl ?_; refine yq (p_and1 rfl Zz Zz) rfl ?_; refine yq (p_conv rfl wDia6_int3 wDia6_int5 Zz) rfl ?_; refine yq ((by first | exact p_indexR rfl wDia6_isl42 wDia6_siz5 Zz rfl Zz (by rw [hfl]; omega) | exact p_indexRZ rfl wDia6_isl42 wDia6_siz5 Zz rfl Zz (by omega) (by rw [hfl]; omega))) rfl ?_; refine dcons (r_storeE rfl wDia6_siz5 rfl rfl rfl Zz rfl (by rw [hfl]; omega) Zz rfl) ?_; refine dnil (by kernel_rfl) (f_nil ?_); show AWs _ _ _ _ _; refine f_region ?_; refine zq (p_add rfl Zz Zz (by omega)) rfl (zm1 rfl rfl rfl (snil ?_))
      refine f_back ⟨i + 1, ?_, ?_, le_ofL ⟨rfl, rfl, rfl, (by rw [← Sp.fill_to (by omega) (Sp.comb_wrap op (p (Sp.bits n i)) (q (Sp.bits n i)))]; rfl), rfl, rfl, rfl, rfl, trivial⟩ rfl⟩
      · omega
      · omega
    · intro hc1; (try simp only [bs] at hc1); refine f_exit ?_; show AWs _ _ _ _ _; refine f_seq (f_region (zm3 rfl rfl rfl (zm4 rfl rfl rfl (snil (f_ret ?_)))))
      refine endsN_ret (resN_eq (resN_row rfl rfl rfl rfl) ?_)
      rw [Sp.fill_end _ _ (by omega), Sp.btab_map]

theorem Both_spec (n op : Int) (l : List Sp.Cho) (r : Int) (l' : List Sp.Cho) (r' : Int) :
    Spec Go.Proofs.Try.prog 11 [iv n, iv op, .val (dia l r), .val (dia l' r')] (two (dia (Sp.diaBoth n op l r l' r').1 (Sp.diaBoth n op l r l' r').2.1) (fault (Sp.diaBoth n op l r l' r').2.2.1 (Sp.diaBoth n op l r l' r').2.2.2)) := by
  refine spec_of' Go.Proofs.Try.func11 rfl Go.Proofs.Try.ntmps11 rfl ?_
  refine f_seq (f_region ?_); refine scons (r_box (ob := 10006) rfl Zz rfl rfl rfl rfl rfl rfl) ?_; refine scons (r_box (ob := 10007) rfl Zz rfl rfl rfl rfl rfl rfl) ?_; refine scons (r_alloc (ob := 10008) rfl wDia6_zer29 rfl rfl rfl rfl rfl rfl) ?_; refine scons (r_alloc (ob := 10009) rfl wDia6_zer31 rfl rfl rfl rfl rfl rfl) (snil (f_seq (f_seq (f_region (zm1 rfl rfl rfl ?_))))); refine zq (p_loadBS rfl wDia6_agg29 wDia6_siz29 Zz rfl rfl rfl) rfl ?_; refine zc (c_call rfl wDia6_isf21 ⟨_, _, rfl, Zz, rfl, ⟨_, _, rfl, Zz, rfl, rfl⟩⟩ (diaCheck_spec n l r)) rfl ?_; refine scons (r_alloc (ob := 10010) rfl wDia6_zer31 rfl rfl rfl rfl rfl rfl) ?_; refine scons (r_storeS rfl wDia6_siz31 rfl rfl rfl Zz rfl Zz rfl rfl rfl rfl) (snil (f_seq (f_region ?_))); refine zq (p_fieldRef rfl wDia6_fld31_0 wDia6_siz3 rfl Zz rfl) rfl ?_; refine zq (p_loadB (y := .val _) rfl wDia6_agg3 Zz rfl rfl rfl rfl) rfl ?_; refine zq (p_neq rfl Zz Zz) rfl (snil (f_cond rfl ?_ ?_))
  · intro hc1; (try simp only [bs] at hc1); refine f_seq ?_; refine f_draw wDia6_mix (by kernel_rfl) ?_; refine yq (p_build rfl wDia6_plc29 wDia6_zer29 (by decide) wDia6_zch29 rfl rfl) rfl ?_; refine yq (p_loadBS rfl wDia6_agg31 wDia6_siz31 Zz rfl rfl rfl) rfl ?_; refine dcons (r_storeS rfl wDia6_siz29 rfl rfl rfl Zz rfl Zz rfl rfl rfl rfl) ?_; refine dcons (r_storeS rfl wDia6_siz31 rfl rfl rfl Zz rfl Zz rfl rfl rfl rfl) ?_; refine dnil (by kernel_rfl) (f_ret ?_)
    refine ends_ret (res_eq (res2 rfl (res_cell (by rfl) rfl rfl wDia6_agg29 wDia6_siz29 rfl rfl) (res_cell (by rfl) rfl rfl wDia6_agg31 wDia6_siz31 rfl rfl)) ?_)
    rw [Sp.diaBoth, if_pos hc1]
    all_goals rfl
  · intro hc1; (try simp only [bs] at hc1); refine f_skip (f_seq (f_seq (f_region (zm1 rfl rfl rfl ?_)))); refine zq (p_loadBS rfl wDia6_agg29 wDia6_siz29 Zz rfl rfl rfl) rfl ?_; refine zc (c_call rfl wDia6_isf21 ⟨_, _, rfl, Zz, rfl, ⟨_, _, rfl, Zz, rfl, rfl⟩⟩ (diaCheck_spec n l' r')) rfl ?_; refine scons (r_alloc (ob := 10011) rfl wDia6_zer31 rfl rfl rfl rfl rfl rfl) ?_; refine scons (r_storeS rfl wDia6_siz31 rfl rfl rfl Zz rfl Zz rfl rfl rfl rfl) (snil (f_seq (f_region ?_))); refine zq (p_fieldRef rfl wDia6_fld31_0 wDia6_siz3 rfl Zz rfl) rfl ?_; refine zq (p_loadB (y := .val _) rfl wDia6_agg3 Zz rfl rfl rfl rfl) rfl ?_; refine zq (p_neq rfl Zz Zz) rfl (snil (f_cond rfl ?_ ?_))
    · intro hc2; (try simp only [bs] at hc2); refine f_seq ?_; refine f_draw wDia6_mix (by kernel_rfl) ?_; refine yq (p_build rfl wDia6_plc29 wDia6_zer29 (by decide) wDia6_zch29 rfl rfl) rfl ?_; refine yq (p_loadBS rfl wDia6_agg31 wDia6_siz31 Zz rfl rfl rfl) rfl ?_; refine dcons (r_storeS rfl wDia6_siz29 rfl rfl rfl Zz rfl Zz rfl rfl rfl rfl) ?_; refine dcons (r_storeS rfl wDia6_siz31 rfl rfl rfl Zz rfl Zz rfl rfl rfl rfl) ?_; refine dnil (by kernel_rfl) (f_ret ?_)
      refine ends_ret (res_eq (res2 rfl (res_cell (by rfl) rfl rfl wDia6_agg29 wDia6_siz29 rfl rfl) (res_cell (by rfl) rfl rfl wDia6_agg31 wDia6_siz31 rfl rfl)) ?_)
      rw [Sp.diaBoth, if_neg (fun h => h hc1), if_pos hc2]
      all_goals rfl
    · intro hc2; (try simp only [bs] at hc2); refine f_skip (f_seq (f_seq (f_region (zm1 rfl rfl rfl ?_)))); refine zq (p_lss rfl Zz Zz) rfl (zm1 rfl rfl rfl ?_); refine scons (CStep.guard rfl rfl rfl (fun hg0 => PStep.c (p_move (y := .val _) rfl Zz rfl)) rfl rfl rfl rfl rfl) ?_; refine scons (CStep.guard rfl rfl rfl (fun hg0 => PStep.c (p_gtr rfl (Sees.gv' rfl hg0) Zz)) rfl rfl rfl rfl rfl) ?_; refine zq (p_or rfl Zz Zz (fun h => Sees.gv' rfl (beq_of_eq h))) rfl (snil (f_cond rfl ?_ ?_))
      · intro hc3; (try simp only [bs] at hc3); refine f_seq (f_region ?_); refine zq (p_build rfl wDia6_plc29 wDia6_zer29 (by decide) wDia6_zch29 rfl rfl) rfl ?_; refine zq (p_build rfl wDia6_plc31 wDia6_zer31 (by decide) wDia6_zch31 ⟨_, _, _, rfl, rfl, rfl, Zz, ⟨_, _, _, rfl, rfl, rfl, Zz, rfl⟩⟩ rfl) rfl ?_; refine scons (r_storeS rfl wDia6_siz29 rfl rfl rfl Zz rfl Zz rfl rfl rfl rfl) ?_; refine scons (r_storeS rfl wDia6_siz31 rfl rfl rfl Zz rfl Zz rfl rfl rfl rfl) (snil (f_ret ?_))
        refine ends_ret (res_eq (res2 rfl (res_cell (by rfl) rfl rfl wDia6_agg29 wDia6_siz29 rfl rfl) (res_cell (by rfl) rfl rfl wDia6_agg31 wDia6_siz31 rfl rfl)) ?_)
        rw [Sp.diaBoth, if_neg (fun h => h hc1), if_neg (fun h => h hc2), if_pos (by omega)]
        all_goals rfl
      · intro hc3; (try simp only [bs] at hc3)
        obtain ⟨m, rfl⟩ : ∃ m : Nat, n = (m : Int) := ⟨n.toNat, by have := Sp.dia_ok hc1; omega⟩
        have hok := Sp.dia_ok hc1
        have hp16 := Sp.pow16 (n := m) (by omega)
        refine f_skip (f_seq ?_); refine f_draw wDia6_mix (by kernel_rfl) (zd1 rfl rfl rfl (zd1 rfl rfl rfl ?_)); refine yq (p_loadBS rfl wDia6_agg29 wDia6_siz29 Zz rfl rfl rfl) rfl ?_; refine yc (c_call rfl wDia6_isf23 ⟨_, _, rfl, Zz, rfl, ⟨_, _, rfl, Zz, rfl, rfl⟩⟩ ((tableOf_spec m l r hc1).spec 0)) rfl (zd1 rfl rfl rfl ?_); refine yq (p_loadBS rfl wDia6_agg29 wDia6_siz29 Zz rfl rfl rfl) rfl ?_; refine yc (c_call rfl wDia6_isf23 ⟨_, _, rfl, Zz, rfl, ⟨_, _, rfl, Zz, rfl, rfl⟩⟩ ((tableOf_spec m l' r' hc2).spec 0)) rfl ?_; refine yc (c_call rfl wDia6_isf22 ⟨_, _, rfl, Zz, rfl, ⟨_, _, rfl, Zz, rfl, ⟨_, _, rfl, Zz, rfl, rfl⟩⟩⟩ ((Combined_spec m op (Sp.dvalue l r) (Sp.dvalue l' r') (by omega) (by omega)).spec 0)) rfl ?_; refine yc (c_call rfl wDia6_isf13 ⟨_, _, rfl, Zz, rfl, rfl⟩ (Built_spec m (Sp.dtab (fun a => Sp.comb op (Sp.dvalue l r a) (Sp.dvalue l' r' a)) m) (by omega) (Sp.dtab_len _ _))) rfl ?_; refine yq (p_extract rfl Zz rfl) rfl ?_; refine yq (p_extract rfl Zz rfl) rfl ?_; refine dcons (r_storeS rfl wDia6_siz29 rfl rfl rfl Zz rfl Zz rfl rfl rfl rfl) ?_; refine dcons (r_storeS rfl wDia6_siz31 rfl rfl rfl Zz rfl Zz rfl rfl rfl rfl) ?_; refine dnil (by kernel_rfl) (f_ret ?_)
        refine ends_ret (res_eq (res2 rfl (res_cell (by rfl) rfl rfl wDia6_agg29 wDia6_siz29 rfl rfl) (res_cell (by rfl) rfl rfl wDia6_agg31 wDia6_siz31 rfl rfl)) ?_)
        rw [Sp.diaBoth, if_neg (fun h => h hc1), if_neg (fun h => h hc2), if_neg (by omega), Int.toNat_natCast]
        all_goals rfl

theorem Forget_spec (n : Nat) (p : List Bool → Bool) (v : Int) (hn : n ≤ 16) (hv : 1 ≤ v ∧ v ≤ n) :
    SpecN Go.Proofs.Try.prog 32 [.val (bytes (Sp.btab p n)), iv n, iv v] 5 1 1 dby (Sp.btab (Sp.some2 p v) n) := by
  refine specN_of' Go.Proofs.Try.func32 rfl Go.Proofs.Try.ntmps32 rfl ?_
  refine f_seq ?_
  have hp16 := Sp.pow16 hn
  have hl1 := Sp.btab_len p n
  have hpv : ((n : Int) - v).toNat = n - v.toNat := by omega
  have hpw := Sp.pow_ok (m := n - v.toNat) (by omega)
  have hpn : (1 : Int) * 2 ^ ((n : Int) - v).toNat = ((2 ^ (n - v.toNat) : Nat) : Int) := by rw [hpv]; simp
  have hpl : 2 ^ (n - v.toNat) ≤ 65536 := Sp.pow16 (by omega)
  have hpw2 : -9223372036854775808 ≤ (1 : Int) * 2 ^ ((n : Int) - v).toNat ∧ (1 : Int) * 2 ^ ((n : Int) - v).toNat ≤ 9223372036854775807 := by
    rw [hpn]
    exact ⟨Int.le_trans (by decide) (Int.natCast_nonneg _), Int.le_trans (Int.ofNat_le.2 hpl) (by decide)⟩
  refine f_region (zm5 rfl rfl rfl (snil (f_seq (f_region (zm1 rfl rfl rfl ?_))))); refine scons (r_callS (q := false) (ob := 10011) 0 rfl wDia6_isf38 (cloneT_spec (Sp.btab p n)) (sa_cons (sh_of Zz rfl) (sa_nil)) (.inl rfl) rfl rfl rfl rfl rfl) (zm4 rfl rfl rfl (snil (f_seq (f_region (zm1 rfl rfl rfl (zm1 rfl rfl rfl ?_)))))); refine zq (p_sub rfl Zz Zz (by omega)) rfl ?_; refine zq (p_shl rfl Zz Zz (by omega) (by omega) (by first | omega | assumption)) rfl (zm2 rfl rfl rfl (snil (f_seq (f_seq (f_region (zm3 rfl rfl rfl ?_)))))); refine zq (p_lenR rfl wDia6_isl42 Zz rfl) rfl (zm1 rfl rfl rfl (snil (f_block ?_)))
  refine f_loop (α := Nat) (fun i => i ≤ 2 ^ n) (fun i => [(18, iv i), (17, iv (2 ^ n : Nat)), (8, iv (2 ^ (n - v.toNat) : Nat)), (7, .row 10011 0), (10011, .arr 0 5 1 1 dby 0 (Sp.fillTo (2 ^ n) (fun k : Nat => Sp.b01 (p (Sp.bits n k))) (fun k : Nat => Sp.b01 (Sp.some2 p v (Sp.bits n k))) i)), (0, .val (bytes (Sp.btab p n))), (6, .emp)]) (fun i => 2 ^ n - i) 0 ?_ ?_ ?_
  · exact Nat.zero_le _
  · exact le_ofL ⟨rfl, (by rw [← Sp.btab_len p n]; rfl), (by rw [← hpn]; rfl), rfl, (by rw [Sp.fill_zero, ← Sp.btab_map]; rfl), rfl, rfl, trivial⟩ rfl
  · rintro i hi
    have hi : i ≤ 2 ^ n := hi
    have hfl := Sp.fill_len (2 ^ n) (fun k : Nat => Sp.b01 (p (Sp.bits n k))) (fun k : Nat => Sp.b01 (Sp.some2 p v (Sp.bits n k))) i
    refine f_seq (f_region ?_); refine zq (p_lss rfl Zz Zz) rfl (snil (f_seq (f_cond rfl ?_ ?_)))
    · intro hc1; (try simp only [bs] at hc1); refine f_skip (f_seq (f_block (f_seq (f_region (zm1 rfl rfl rfl (zm2 rfl rfl rfl (snil ?_)))))))
      have hb1 := Sp.btab_at p n i (by omega)
      have hP := Sp.b01_le (p (Sp.bits n i))
      have hxl := Sp.xor_lt (n := n) (i := i) (v := v.toNat) (by omega) (by omega) (by omega)
      have hb2 := Sp.btab_at p n ((i ^^^ 2 ^ (n - v.toNat) : Nat)) hxl
      refine f_draw wDia6_mix (by kernel_rfl) ?_; refine yq (p_move (y := .row _ _) rfl Zz rfl) rfl (zd1 rfl rfl rfl (zd1 rfl rfl rfl (zd1 rfl rfl rfl ?_))); refine yq ((by first | exact p_indexN rfl wDia6_isl42 wDia6_siz5 Zz Zz (by omega) | exact p_index rfl wDia6_isl42 wDia6_siz5 Zz Zz (by omega) (by omega))) rfl ?_; refine yq (p_load rfl wDia6_agg5 Zz rfl) rfl (zd1 rfl rfl rfl (zd1 rfl rfl rfl (zd1 rfl rfl rfl ?_))); refine yq (p_xorN rfl Zz Zz (by omega) (by omega)) rfl ?_; refine yq ((by first | exact p_indexN rfl wDia6_isl42 wDia6_siz5 Zz Zz (by rw [hl1]; exact hxl) | exact p_index rfl wDia6_isl42 wDia6_siz5 Zz Zz (by omega) (by rw [hl1]; exact hxl))) rfl ?_; refine yq (p_load rfl wDia6_agg5 Zz rfl) rfl ?_; refine yq (p_or8 (a := p (Sp.bits n i)) (b := p (Sp.bits n (((i ^^^ 2 ^ (n - v.toNat) : Nat)) : Int))) rfl (Sees.of (congrArg (fun q => AV.val (.int .u8 q)) hb1)) (Sees.of (congrArg (fun q => AV.val (.int .u8 q)) hb2))) rfl ?_; refine yq ((by first | exact p_indexR rfl wDia6_isl42 wDia6_siz5 Zz rfl Zz (by rw [hfl]; omega) | exact p_indexRZ rfl wDia6_isl42 wDia6_siz5 Zz rfl Zz (by omega) (by rw [hfl]; omega))) rfl ?_; refine dcons (r_storeE rfl wDia6_siz5 rfl rfl rfl Zz rfl (by rw [hfl]; omega) Zz rfl) ?_; refine dnil (by kernel_rfl) (f_nil ?_); show AWs _ _ _ _ _; refine f_region ?_; refine zq (p_add rfl Zz Zz (by omega)) rfl (zm1 rfl rfl rfl (snil ?_))
      refine f_back ⟨i + 1, ?_, ?_, le_ofL ⟨rfl, rfl, rfl, rfl, (by rw [← Sp.fill_to (by omega) (Sp.some_xor p hv)]; rfl), rfl, rfl, trivial⟩ rfl⟩
      · omega
      · omega
    · intro hc1; (try simp only [bs] at hc1); refine f_exit ?_; show AWs _ _ _ _ _; refine f_seq (f_region (zm3 rfl rfl rfl (zm4 rfl rfl rfl (snil (f_ret ?_)))))
      refine endsN_ret (resN_eq (resN_row rfl rfl rfl rfl) ?_)
      rw [Sp.fill_end _ _ (by omega), Sp.btab_map]

end Go.Um
