/- Walks of Go functions of this seat, each by its contract. No condition beyond what each theorem says. -/
import Derived.Test.YtfjafkocejoigaaGreatWTop5
import Derived.Test.YtfjafkocejoigaaGreatLayD
import Derived.Test.YtfjafkocejoigaaGreatTr6
import Derived.Test.YtfjafkocejoigaaGreatWNorm
import Derived.Test.YtfjafkocejoigaaGreatProg
import Derived.KernelRfl
import Derived.Test.YtfjafkocejoigaaGreatQ
set_option maxRecDepth 4000
namespace Go.Um
open Go Go.RowKit

theorem wTop8_agg22 : IsAgg Go.Proofs.Tryz.prog 22 false := by unfold IsAgg; kernel_rfl
theorem wTop8_agg23 : IsAgg Go.Proofs.Tryz.prog 23 false := by unfold IsAgg; kernel_rfl
theorem wTop8_agg25 : IsAgg Go.Proofs.Tryz.prog 25 true := by unfold IsAgg; kernel_rfl
theorem wTop8_agg29 : IsAgg Go.Proofs.Tryz.prog 29 true := by unfold IsAgg; kernel_rfl
theorem wTop8_agg3 : IsAgg Go.Proofs.Tryz.prog 3 false := by unfold IsAgg; kernel_rfl
theorem wTop8_agg54 : IsAgg Go.Proofs.Tryz.prog 54 true := by unfold IsAgg; kernel_rfl
theorem wTop8_agg61 : IsAgg Go.Proofs.Tryz.prog 61 true := by unfold IsAgg; kernel_rfl
theorem wTop8_byt22 : Bytes Go.Proofs.Tryz.prog 22 24 := by unfold Bytes; kernel_rfl
theorem wTop8_byt54 : Bytes Go.Proofs.Tryz.prog 54 120 := by unfold Bytes; kernel_rfl
theorem wTop8_fld120_1 : IsField Go.Proofs.Tryz.prog 120 1 4 23 := by unfold IsField; kernel_rfl
theorem wTop8_fld25_0 : IsField Go.Proofs.Tryz.prog 25 0 0 3 := by unfold IsField; kernel_rfl
theorem wTop8_fld25_1 : IsField Go.Proofs.Tryz.prog 25 1 1 23 := by unfold IsField; kernel_rfl
theorem wTop8_fld29_0 : IsField Go.Proofs.Tryz.prog 29 0 0 3 := by unfold IsField; kernel_rfl
theorem wTop8_fld54_0 : IsField Go.Proofs.Tryz.prog 54 0 0 3 := by unfold IsField; kernel_rfl
theorem wTop8_fld54_1 : IsField Go.Proofs.Tryz.prog 54 1 1 22 := by unfold IsField; kernel_rfl
theorem wTop8_fld61_3 : IsField Go.Proofs.Tryz.prog 61 3 3 23 := by unfold IsField; kernel_rfl
theorem wTop8_isf10 : IsFn Go.Proofs.Tryz.prog 10 := by unfold IsFn; kernel_rfl
theorem wTop8_isf16 : IsFn Go.Proofs.Tryz.prog 16 := by unfold IsFn; kernel_rfl
theorem wTop8_isf17 : IsFn Go.Proofs.Tryz.prog 17 := by unfold IsFn; kernel_rfl
theorem wTop8_isf18 : IsFn Go.Proofs.Tryz.prog 18 := by unfold IsFn; kernel_rfl
theorem wTop8_isf19 : IsFn Go.Proofs.Tryz.prog 19 := by unfold IsFn; kernel_rfl
theorem wTop8_isf48 : IsFn Go.Proofs.Tryz.prog 48 := by unfold IsFn; kernel_rfl
theorem wTop8_isf49 : IsFn Go.Proofs.Tryz.prog 49 := by unfold IsFn; kernel_rfl
theorem wTop8_isf50 : IsFn Go.Proofs.Tryz.prog 50 := by unfold IsFn; kernel_rfl
theorem wTop8_isf51 : IsFn Go.Proofs.Tryz.prog 51 := by unfold IsFn; kernel_rfl
theorem wTop8_isf52 : IsFn Go.Proofs.Tryz.prog 52 := by unfold IsFn; kernel_rfl
theorem wTop8_isf53 : IsFn Go.Proofs.Tryz.prog 53 := by unfold IsFn; kernel_rfl
theorem wTop8_isf54 : IsFn Go.Proofs.Tryz.prog 54 := by unfold IsFn; kernel_rfl
theorem wTop8_isf55 : IsFn Go.Proofs.Tryz.prog 55 := by unfold IsFn; kernel_rfl
theorem wTop8_isf56 : IsFn Go.Proofs.Tryz.prog 56 := by unfold IsFn; kernel_rfl
theorem wTop8_isf57 : IsFn Go.Proofs.Tryz.prog 57 := by unfold IsFn; kernel_rfl
theorem wTop8_isf58 : IsFn Go.Proofs.Tryz.prog 58 := by unfold IsFn; kernel_rfl
theorem wTop8_isf59 : IsFn Go.Proofs.Tryz.prog 59 := by unfold IsFn; kernel_rfl
theorem wTop8_isf60 : IsFn Go.Proofs.Tryz.prog 60 := by unfold IsFn; kernel_rfl
theorem wTop8_isf67 : IsFn Go.Proofs.Tryz.prog 67 := by unfold IsFn; kernel_rfl
theorem wTop8_isf7 : IsFn Go.Proofs.Tryz.prog 7 := by unfold IsFn; kernel_rfl
theorem wTop8_isf8 : IsFn Go.Proofs.Tryz.prog 8 := by unfold IsFn; kernel_rfl
theorem wTop8_isf89 : IsFn Go.Proofs.Tryz.prog 89 := by unfold IsFn; kernel_rfl
theorem wTop8_isf95 : IsFn Go.Proofs.Tryz.prog 95 := by unfold IsFn; kernel_rfl
theorem wTop8_isf99 : IsFn Go.Proofs.Tryz.prog 99 := by unfold IsFn; kernel_rfl
theorem wTop8_isl22 : IsSlice Go.Proofs.Tryz.prog 22 3 := by unfold IsSlice; kernel_rfl
theorem wTop8_isl23 : IsSlice Go.Proofs.Tryz.prog 23 22 := by unfold IsSlice; kernel_rfl
theorem wTop8_isl34 : IsSlice Go.Proofs.Tryz.prog 34 54 := by unfold IsSlice; kernel_rfl
theorem wTop8_mix : (Go.Proofs.Tryz.prog).follows .mixedOrders = true := by kernel_rfl
theorem wTop8_plc120 : Places Go.Proofs.Tryz.prog 120 [(0, 4), (4, 1)] := by unfold Places; kernel_rfl
theorem wTop8_plc29 : Places Go.Proofs.Tryz.prog 29 [(0, 1), (1, 1)] := by unfold Places; kernel_rfl
theorem wTop8_plc54 : Places Go.Proofs.Tryz.prog 54 [(0, 1), (1, 1), (2, 1), (3, 6)] := by unfold Places; kernel_rfl
theorem wTop8_siz22 : Size Go.Proofs.Tryz.prog 22 1 := by unfold Size; kernel_rfl
theorem wTop8_siz23 : Size Go.Proofs.Tryz.prog 23 1 := by unfold Size; kernel_rfl
theorem wTop8_siz25 : Size Go.Proofs.Tryz.prog 25 2 := by unfold Size; kernel_rfl
theorem wTop8_siz29 : Size Go.Proofs.Tryz.prog 29 2 := by unfold Size; kernel_rfl
theorem wTop8_siz3 : Size Go.Proofs.Tryz.prog 3 1 := by unfold Size; kernel_rfl
theorem wTop8_siz54 : Size Go.Proofs.Tryz.prog 54 9 := by unfold Size; kernel_rfl
theorem wTop8_siz61 : Size Go.Proofs.Tryz.prog 61 4 := by unfold Size; kernel_rfl
def wTop8_z29 : D := .cons (.int .i64 0) (.cons (.int .i64 0) (.nil))
theorem wTop8_zch29 : ∀ (ok : Nat → Prop) (w : World), R Go.Proofs.Tryz.prog wTop8_z29 ok w (Value.cells (.agg #[(.int .i64 0), (.int .i64 0)])).toList := fun _ _ => z_int (z_int (z_nil))
def wTop8_z54 : D := .cons (.int .i64 0) (.cons (ints []) (.cons (fras []) (.cons (.int .i64 0) (.cons (.int .i64 0) (.cons (.int .i64 0) (.cons (ints []) (.cons (.int .i64 0) (.cons (.int .i64 0) (.nil)))))))))
theorem wTop8_zch54 : ∀ (ok : Nat → Prop) (w : World), R Go.Proofs.Tryz.prog wTop8_z54 ok w (Value.cells (.agg #[(.int .i64 0), (.slice none 0 0), (.slice none 0 0), (.int .i64 0), (.int .i64 0), (.int .i64 0), (.slice none 0 0), (.int .i64 0), (.int .i64 0)])).toList := fun _ _ => z_int (z_list (z_list (z_int (z_int (z_int (z_list (z_int (z_int (z_nil)))))))))
theorem wTop8_zer120 : Zero Go.Proofs.Tryz.prog 120 (.agg #[(.slice none 0 0), (.slice none 0 0), (.slice none 0 0), (.slice none 0 0), (.slice none 0 0)]) := by unfold Zero; kernel_rfl
theorem wTop8_zer22 : Zero Go.Proofs.Tryz.prog 22 (.slice none 0 0) := by unfold Zero; kernel_rfl
theorem wTop8_zer25 : Zero Go.Proofs.Tryz.prog 25 (.agg #[(.int .i64 0), (.slice none 0 0)]) := by unfold Zero; kernel_rfl
theorem wTop8_zer29 : Zero Go.Proofs.Tryz.prog 29 (.agg #[(.int .i64 0), (.int .i64 0)]) := by unfold Zero; kernel_rfl
theorem wTop8_zer54 : Zero Go.Proofs.Tryz.prog 54 (.agg #[(.int .i64 0), (.slice none 0 0), (.slice none 0 0), (.int .i64 0), (.int .i64 0), (.int .i64 0), (.slice none 0 0), (.int .i64 0), (.int .i64 0)]) := by unfold Zero; kernel_rfl

noncomputable def infII : TypeInfo := (Go.Proofs.Tryz.prog.info? 22).get (by kernel_rfl)
theorem delII_spec (u : Nat) (k : Int) (xs : List (List Int)) (hk0 : 0 ≤ k) (hk : k.toNat < xs.length) :
    SpecV Go.Proofs.Tryz.prog 55 [.row 30000 u, iv k, iv (k + 1)] [(30000, .arr u 22 1 24 ints [] xs)] (.row 30000 (u + 1)) [(30000, .arr (u + 1) 22 1 24 ints [] (Sp.rem xs k))] :=
  delete_spec Go.Proofs.Tryz.layDelII Go.Proofs.Tryz.zeroValue22 infII (by kernel_rfl) (by kernel_rfl) u 22 24 k xs hk0 hk
theorem whyC1_spec (x w : List Int) (hx : x.length ≤ 1000000 ∧ ∀ y ∈ x, -9223372036854775808 < y ∧ y ≤ 9223372036854775807) :
    Spec Go.Proofs.Tryz.prog 53 [.val (ints x), .ptr (ints w)] (D.bool (decide (Sp.litSort x = w))) := by
  refine spec_of' Go.Proofs.Tryz.func53 rfl Go.Proofs.Tryz.ntmps53 rfl ?_
  refine f_seq (f_region (zm2 rfl rfl rfl (snil (f_seq ?_)))); refine f_draw wTop8_mix (by kernel_rfl) (zd1 rfl rfl rfl ?_); refine yq (p_len rfl wTop8_isl22 Zz) rfl ?_; refine yq (p_load rfl wTop8_agg22 Zz rfl) rfl ?_; refine yq (p_len rfl wTop8_isl22 Zz) rfl ?_; refine yq (p_eql rfl Zz Zz) rfl (zd1 rfl rfl rfl ?_); refine dcons (CStep.guard rfl rfl rfl (fun hg0 => PStep.c (p_move (y := .val _) rfl Zz rfl)) rfl rfl rfl rfl rfl) ?_; refine dcons (CStep.guard rfl rfl rfl (fun hg0 => c_call rfl wTop8_isf51 ⟨_, _, rfl, (Sees.gv' rfl hg0), rfl, rfl⟩ (sorted_spec x hx.1 hx.2)) rfl rfl rfl rfl rfl) ?_; refine dcons (CStep.guard rfl rfl rfl (fun hg0 => PStep.c (p_load rfl wTop8_agg22 Zz rfl)) rfl rfl rfl rfl rfl) ?_; refine dcons (CStep.guard rfl rfl rfl (fun hg0 => c_call rfl wTop8_isf54 ⟨_, _, rfl, (Sees.gv' rfl hg0), rfl, ⟨_, _, rfl, (Sees.gv' rfl hg0), rfl, rfl⟩⟩ (equal_spec (Sp.litSort x) w)) rfl rfl rfl rfl rfl) ?_; refine yq (p_and rfl Zz (fun h => Sees.gv' rfl (beq_of_eq h)) Zz) rfl (zd2 rfl rfl rfl ?_); refine dnil (by kernel_rfl) (f_ret ?_)
  refine ends_ret (res_eq (res1 rfl (res_tmp rfl (Sees.of rfl))) ?_)
  congr 1
  rw [Bool.eq_iff_iff, Bool.and_eq_true, decide_eq_true_eq, decide_eq_true_eq]
  exact ⟨fun h => h.2, fun h => ⟨by rw [← h, Sp.litSort_len], h⟩⟩

theorem whyJ1_spec (x w : List Int) (hx : x.length ≤ 1000000 ∧ ∀ y ∈ x, -9223372036854775808 < y ∧ y ≤ 9223372036854775807) :
    Spec Go.Proofs.Tryz.prog 99 [.val (ints x), .ptr (ints w)] (D.bool (decide (Sp.litSort x = w))) := by
  refine spec_of' Go.Proofs.Tryz.func99 rfl Go.Proofs.Tryz.ntmps99 rfl ?_
  refine f_seq (f_region (zm2 rfl rfl rfl (snil (f_seq ?_)))); refine f_draw wTop8_mix (by kernel_rfl) (zd1 rfl rfl rfl ?_); refine yc (c_call rfl wTop8_isf51 ⟨_, _, rfl, Zz, rfl, rfl⟩ (sorted_spec x hx.1 hx.2)) rfl ?_; refine yq (p_load rfl wTop8_agg22 Zz rfl) rfl ?_; refine yc (c_call rfl wTop8_isf54 ⟨_, _, rfl, Zz, rfl, ⟨_, _, rfl, Zz, rfl, rfl⟩⟩ (equal_spec (Sp.litSort x) w)) rfl (zd2 rfl rfl rfl ?_); refine dnil (by kernel_rfl) (f_ret ?_)
  refine ends_ret (res_eq (res1 rfl (res_tmp rfl (Sees.of rfl))) ?_)
  rfl

theorem ckAll_spec (n : Nat) (ls : List (List Int)) (st : List Sp.Sk) (h : Sp.Sts n ls st) (hn : n ≤ 24) :
    Spec Go.Proofs.Tryz.prog 48 [.val (cnf n ls), .val (stps st)] (fault 0 0) := by
  refine spec_of' Go.Proofs.Tryz.func48 rfl Go.Proofs.Tryz.ntmps48 rfl ?_
  refine f_seq ?_
  have hll := h.ll
  have hnn := (Sp.check_ok h.ck).1
  have hz := Sp.check_zero h.ck
  refine f_region ?_; refine scons (r_box (ob := 10002) rfl Zz rfl rfl rfl rfl rfl rfl) ?_; refine scons (r_alloc (ob := 10004) rfl wTop8_zer29 rfl rfl rfl rfl rfl rfl) (snil (f_seq (f_seq (f_region ?_)))); refine zq (p_loadBS rfl wTop8_agg25 wTop8_siz25 Zz rfl rfl rfl) rfl ?_; refine zc (c_call rfl wTop8_isf67 ⟨_, _, rfl, Zz, rfl, rfl⟩ (ccheck_spec n ls)) rfl ?_; refine scons (r_alloc (ob := 10005) rfl wTop8_zer29 rfl rfl rfl rfl rfl rfl) ?_; refine scons (r_storeS rfl wTop8_siz29 rfl rfl rfl Zz rfl Zz rfl rfl rfl rfl) (snil (f_seq (f_region ?_))); refine zq (p_fieldRef rfl wTop8_fld29_0 wTop8_siz3 rfl Zz rfl) rfl ?_; refine zq (p_loadB (y := .val _) rfl wTop8_agg3 Zz rfl rfl rfl rfl) rfl ?_; refine zq (p_neq rfl Zz Zz) rfl (snil (f_cond rfl ?_ ?_))
  · intro hc1; (try simp only [bs] at hc1)
    exact absurd h.ck hc1
  · intro hc1; (try simp only [bs] at hc1); refine f_skip (f_seq (f_seq (f_region (zm1 rfl rfl rfl ?_)))); refine zq (p_len rfl wTop8_isl34 Zz) rfl ?_; refine zq (p_gtr rfl Zz Zz) rfl (snil (f_cond rfl ?_ ?_))
    · intro hc2; (try simp only [bs] at hc2)
      omega
    · intro hc2; (try simp only [bs] at hc2); refine f_skip (f_seq (f_seq (f_region (zm1 rfl rfl rfl ?_)))); refine zq (p_len rfl wTop8_isl34 Zz) rfl (zm1 rfl rfl rfl (snil (f_block ?_)))
      refine f_loop (α := Nat) (fun i => i ≤ st.length) (fun i => [(22, iv i), (2, .ref 10002 0 0), (4, .ref 10004 0 0), (20, .val (stps st)), (21, iv st.length), (10002, .box 0 (.ccons (iv n) (.ccons (.val (intss ls)) .cnil))), (10004, .box 0 (.ccons (iv 0) (.ccons (iv 0) .cnil)))]) (fun i => st.length - i) 0 ?_ ?_ ?_
      · exact Nat.zero_le _
      · exact le_ofL ⟨rfl, rfl, rfl, rfl, rfl, rfl, rfl, trivial⟩ rfl
      · rintro i hi
        refine f_seq (f_region ?_); refine zq (p_lss rfl Zz Zz) rfl (snil (f_seq (f_cond rfl ?_ ?_)))
        · intro hc3; (try simp only [bs] at hc3); refine f_skip (f_seq (f_block (f_seq (f_region (zm1 rfl rfl rfl ?_))))); refine zq ((by first | exact p_indexN rfl wTop8_isl34 wTop8_siz54 Zz Zz (by omega) | exact p_index rfl wTop8_isl34 wTop8_siz54 Zz Zz (by omega) (by omega))) rfl ?_; refine zq (p_loadS rfl wTop8_agg54 wTop8_siz54 Zz ⟨rfl, fun h => R_len rfl h⟩) rfl ?_; refine scons (r_alloc (ob := 10007) rfl wTop8_zer54 rfl rfl rfl rfl rfl rfl) (zm2 rfl rfl rfl ?_); refine scons (r_storeS rfl wTop8_siz54 rfl rfl rfl Zz rfl Zz rfl rfl rfl rfl) (snil (f_seq (f_seq ?_)))
          have hs := h.ok _ (Sp.getD_mem st i (0, []) (by omega))
          have hwc := Sp.wrong_iff.1 hs.2.1
          have hcf := Sp.okc_fine (by omega : n ≤ 1000) hwc
          refine f_region ?_; refine zq (p_fieldRef rfl wTop8_fld54_0 wTop8_siz3 rfl Zz rfl) rfl ?_; refine zq (p_loadB (y := .val _) rfl wTop8_agg3 Zz rfl rfl rfl rfl) rfl ?_; refine zq (p_neq rfl Zz Zz) rfl (zm1 rfl rfl rfl ?_); refine scons (CStep.guard rfl rfl rfl (fun hg0 => PStep.c (p_fieldRef rfl wTop8_fld54_0 wTop8_siz3 rfl Zz rfl)) rfl rfl rfl rfl rfl) ?_; refine scons (CStep.guard rfl rfl rfl (fun hg0 => PStep.c (p_loadB (y := .val _) rfl wTop8_agg3 (Sees.gv' rfl hg0) rfl rfl rfl rfl)) rfl rfl rfl rfl rfl) ?_; refine scons (CStep.guard rfl rfl rfl (fun hg0 => PStep.c (p_neq rfl (Sees.gv' rfl hg0) Zz)) rfl rfl rfl rfl rfl) ?_; refine zq (p_and rfl Zz (fun h => Sees.gv' rfl (beq_of_eq h)) Zz) rfl (snil (f_cond rfl ?_ ?_))
          · intro hc4; (try simp only [bs] at hc4)
            exfalso
            omega
          · intro hc4; (try simp only [bs] at hc4); refine f_skip (f_seq (f_region ?_)); refine zq (p_fieldRef rfl wTop8_fld54_1 wTop8_siz22 rfl Zz rfl) rfl ?_; refine zq (p_loadB (y := .val _) rfl wTop8_agg22 Zz rfl rfl rfl rfl) rfl ?_; refine zq (p_fieldRef rfl wTop8_fld25_0 wTop8_siz3 rfl Zz rfl) rfl ?_; refine zq (p_loadB (y := .val _) rfl wTop8_agg3 Zz rfl rfl rfl rfl) rfl ?_; refine zc (c_call rfl wTop8_isf89 ⟨_, _, rfl, Zz, rfl, ⟨_, _, rfl, Zz, rfl, rfl⟩⟩ (bad_spec (st.getD i (0, [])).2 n (by omega))) rfl (zm1 rfl rfl rfl ?_); refine zq (p_extract rfl Zz rfl) rfl ?_; refine zq (p_extract rfl Zz rfl) rfl (zm2 rfl rfl rfl (zm2 rfl rfl rfl (snil (f_seq (f_region (zm1 rfl rfl rfl ?_)))))); refine zq (p_neq rfl Zz Zz) rfl (snil (f_cond rfl ?_ ?_))
            · intro hc5; (try simp only [bs] at hc5)
              exact absurd hs.2.1 hc5
            · intro hc5; (try simp only [bs] at hc5); refine f_skip (f_nil ?_); show AWs _ _ _ _ _; refine f_region ?_; refine zq (p_add rfl Zz Zz (by omega)) rfl (zm1 rfl rfl rfl (snil ?_))
              refine f_back ⟨i + 1, ?_, ?_, le_ofL ⟨rfl, rfl, rfl, rfl, rfl, rfl, rfl, trivial⟩ rfl⟩
              · omega
              · omega
        · intro hc3; (try simp only [bs] at hc3); refine f_exit ?_; show AWs _ _ _ _ _; refine f_seq (f_region ?_); refine zq (p_build rfl wTop8_plc29 wTop8_zer29 (by decide) wTop8_zch29 rfl rfl) rfl ?_; refine scons (r_storeS rfl wTop8_siz29 rfl rfl rfl Zz rfl Zz rfl rfl rfl rfl) (snil (f_ret ?_))
          refine ends_ret (res_eq (res1 rfl (res_cell (by rfl) rfl rfl wTop8_agg29 wTop8_siz29 rfl rfl)) ?_)
          rfl

set_option maxHeartbeats 2000000 in
theorem whyD_spec (n : Nat) (ls : List (List Int)) (st : List Sp.Sk) (h : Sp.Sts n ls st) (hn : n ≤ 24) :
    Spec Go.Proofs.Tryz.prog 17 [.val (cnf n ls), .val (stps st)] (two (di (Sp.whyGo ls 0 st)) (fault 0 0)) := by
  refine spec_of' Go.Proofs.Tryz.func17 rfl Go.Proofs.Tryz.ntmps17 rfl ?_
  refine f_seq ?_
  have hll := h.ll
  have hnn := (Sp.check_ok h.ck).1
  have hcc := (Sp.check_ok h.ck).2.1
  have hz := Sp.check_zero h.ck
  refine f_region ?_; refine scons (r_box (ob := 10002) rfl Zz rfl rfl rfl rfl rfl rfl) (zm2 rfl rfl rfl ?_); refine scons (r_alloc (ob := 10005) rfl wTop8_zer29 rfl rfl rfl rfl rfl rfl) (snil (f_seq (f_seq (f_region ?_)))); refine zq (p_loadBS rfl wTop8_agg25 wTop8_siz25 Zz rfl rfl rfl) rfl (zm1 rfl rfl rfl ?_); refine zc (c_call rfl wTop8_isf48 ⟨_, _, rfl, Zz, rfl, ⟨_, _, rfl, Zz, rfl, rfl⟩⟩ (ckAll_spec n ls st h hn)) rfl ?_; refine scons (r_alloc (ob := 10006) rfl wTop8_zer29 rfl rfl rfl rfl rfl rfl) ?_; refine scons (r_storeS rfl wTop8_siz29 rfl rfl rfl Zz rfl Zz rfl rfl rfl rfl) (snil (f_seq (f_region ?_))); refine zq (p_fieldRef rfl wTop8_fld29_0 wTop8_siz3 rfl Zz rfl) rfl ?_; refine zq (p_loadB (y := .val _) rfl wTop8_agg3 Zz rfl rfl rfl rfl) rfl ?_; refine zq (p_neq rfl Zz Zz) rfl (snil (f_cond rfl ?_ ?_))
  · intro hc1; (try simp only [bs] at hc1)
    exact absurd trivial hc1
  · intro hc1; (try simp only [bs] at hc1); refine f_skip (f_seq (f_region ?_)); refine zq (p_fieldRef rfl wTop8_fld25_1 wTop8_siz23 rfl Zz rfl) rfl ?_; refine zq (p_loadB (y := .val _) rfl wTop8_agg23 Zz rfl rfl rfl rfl) rfl ?_; refine scons (r_callS (q := false) (ob := 30000) [] rfl wTop8_isf49 (cloneII_spec ls (by omega)) (sa_cons (sh_of Zz rfl) (sa_nil)) (.inl rfl) rfl rfl rfl rfl rfl) (zm4 rfl rfl rfl (snil (f_seq (f_seq (f_region (zm1 rfl rfl rfl ?_)))))); refine zq (p_len rfl wTop8_isl34 Zz) rfl (zm1 rfl rfl rfl (snil (f_block ?_)))
    refine f_loop (α := Nat × List (List Int) × Nat) (fun (i, l, u) => i ≤ st.length ∧ Sp.whyGo ls 0 st = Sp.whyGo l i (st.drop i) ∧ Sp.Wy n (ls.length + i) l) (fun (i, l, u) => [(24, iv i), (7, .row 30000 u), (30000, .arr u 22 1 24 ints [] l), (1, .val (stps st)), (5, .ref 10005 0 0), (22, .val (stps st)), (23, iv st.length), (10005, .box 0 (.ccons (iv 0) (.ccons (iv 0) .cnil)))]) (fun (i, l, u) => st.length - i) (0, ls, 0) ?_ ?_ ?_
    · exact ⟨Nat.zero_le _, rfl, Nat.le_refl _, Sp.check_okc h.ck⟩
    · exact le_ofL ⟨rfl, rfl, rfl, rfl, rfl, rfl, rfl, rfl, trivial⟩ rfl
    · rintro ⟨i, l, u⟩ ⟨hi, hgo, hW⟩
      have hi : i ≤ st.length := hi
      refine f_seq (f_region ?_); refine zq (p_lss rfl Zz Zz) rfl (snil (f_seq (f_cond rfl ?_ ?_)))
      · intro hc2; (try simp only [bs] at hc2); refine f_skip (f_seq (f_block (f_seq (f_region (zm1 rfl rfl rfl ?_))))); refine zq ((by first | exact p_indexN rfl wTop8_isl34 wTop8_siz54 Zz Zz (by omega) | exact p_index rfl wTop8_isl34 wTop8_siz54 Zz Zz (by omega) (by omega))) rfl ?_; refine zq (p_loadS rfl wTop8_agg54 wTop8_siz54 Zz ⟨rfl, fun h => R_len rfl h⟩) rfl ?_; refine scons (r_alloc (ob := 10009) rfl wTop8_zer54 rfl rfl rfl rfl rfl rfl) (zm2 rfl rfl rfl ?_); refine scons (r_storeS rfl wTop8_siz54 rfl rfl rfl Zz rfl Zz rfl rfl rfl rfl) (snil (f_seq (f_seq ?_)))
        have hs := h.ok _ (Sp.getD_mem st i (0, []) (by omega))
        have hwc := Sp.wrong_iff.1 hs.2.1
        have hcf := Sp.okc_fine (by omega : n ≤ 1000) hwc
        obtain ⟨hr1, hr2, hr3⟩ := hW.room hn (by omega)
        have hWl := hW.len
        refine f_region ?_; refine zq (p_fieldRef rfl wTop8_fld54_0 wTop8_siz3 rfl Zz rfl) rfl ?_; refine zq (p_loadB (y := .val _) rfl wTop8_agg3 Zz rfl rfl rfl rfl) rfl ?_; refine zq (p_eql rfl Zz Zz) rfl (snil (f_cond rfl ?_ ?_))
        · intro hc3; (try simp only [bs] at hc3); refine f_seq (f_seq (f_region (zm3 rfl rfl rfl ?_))); refine zq (p_fieldRef rfl wTop8_fld54_1 wTop8_siz22 rfl Zz rfl) rfl ?_; refine zq (p_loadB (y := .val _) rfl wTop8_agg22 Zz rfl rfl rfl rfl) rfl ?_; refine zc (c_callS (q := true) rfl wTop8_isf50 (Falls_spec l (st.getD i (0, [])).2 hr1 hcf.2 (by omega) hr2 (by omega)) (sa_cons (sh_row Zz rfl) (sa_cons (sh_of Zz rfl) (sa_nil))) rfl) rfl ?_; refine zq (p_not rfl Zz) rfl (snil (f_cond rfl ?_ ?_))
          · intro hc4; (try simp only [bs] at hc4); refine f_seq (f_region (zm1 rfl rfl rfl ?_)); refine zq (p_build rfl wTop8_plc29 wTop8_zer29 (by decide) wTop8_zch29 rfl rfl) rfl (zm2 rfl rfl rfl ?_); refine scons (r_storeS rfl wTop8_siz29 rfl rfl rfl Zz rfl Zz rfl rfl rfl rfl) (snil (f_ret ?_))
            refine ends_ret (res_eq (res2 rfl (res_tmp rfl (Sees.of rfl)) (res_cell (by rfl) rfl rfl wTop8_agg29 wTop8_siz29 rfl rfl)) ?_)
            rw [hgo, Sp.why_bad (by omega) (by rw [Sp.jOk, if_pos hc3]; exact decide_eq_false (by omega))]
            rfl
          · intro hc4; (try simp only [bs] at hc4); refine f_skip (f_seq (f_region (zm3 rfl rfl rfl ?_))); refine zq (p_fieldRef rfl wTop8_fld54_1 wTop8_siz22 rfl Zz rfl) rfl ?_; refine zq (p_loadB (y := .val _) rfl wTop8_agg22 Zz rfl rfl rfl rfl) rfl ?_; refine zc (c_buildSlice (f := ints) (za := []) (xs := [.tmp 41]) rfl rfl wTop8_isl23 wTop8_siz22 wTop8_zer22 rfl rfl ⟨_, _, rfl, Zz, rfl, rfl, rfl⟩) rfl ?_; refine scons (r_appendR (ob := 30000) rfl wTop8_isl23 wTop8_siz22 wTop8_byt22 wTop8_zer22 rfl rfl Zz rfl Zz (by simp only [List.length_cons, List.length_nil]; omega) (by simp only [List.length_cons, List.length_nil]; omega) rfl rfl rfl rfl rfl) ?_; refine zm4 rfl rfl rfl (snil (f_exit ?_)); show AWs _ _ _ _ _; refine f_region ?_; refine zq (p_add rfl Zz Zz (by omega)) rfl (zm1 rfl rfl rfl (snil ?_))
            have hj : Sp.jOk l (st.getD i (0, [])) = true := by rw [Sp.jOk, if_pos hc3]; exact decide_eq_true (by omega)
            have hcl : Sp.jCl l (st.getD i (0, [])) = l ++ [(st.getD i (0, [])).2] := by rw [Sp.jCl, if_pos hc3]
            refine f_back ⟨(i + 1, l ++ [(st.getD i (0, [])).2], u + 1), ?_, ?_, le_ofL ⟨rfl, rfl, rfl, rfl, rfl, rfl, rfl, rfl, trivial⟩ rfl⟩
            · refine ⟨by omega, ?_, ?_⟩
              · rw [hgo, Sp.why_step (by omega) hj, hcl]
              · have := hW.step hs.2.1 hj
                rw [hcl] at this
                exact this
            · show _ - (i + 1) < _ - i
              omega
        · intro hc3; (try simp only [bs] at hc3); refine f_skip (f_seq (f_region ?_)); refine zq (p_fieldRef rfl wTop8_fld54_1 wTop8_siz22 rfl Zz rfl) rfl ?_; refine zq (p_loadB (y := .val _) rfl wTop8_agg22 Zz rfl rfl rfl rfl) rfl ?_; refine zc (c_call rfl wTop8_isf51 ⟨_, _, rfl, Zz, rfl, rfl⟩ (sorted_spec (st.getD i (0, [])).2 hcf.1 hcf.2)) rfl ?_; refine scons (r_alloc (ob := 10010) rfl wTop8_zer22 rfl rfl rfl rfl rfl rfl) ?_; refine scons (r_store rfl wTop8_siz22 rfl rfl rfl Zz rfl rfl Zz (one_val rfl)) (snil (f_seq (f_region (zm3 rfl rfl rfl ?_)))); refine zq (p_makeFunc (l := [.tmp 10]) rfl) rfl ?_; refine zc (c_callS (q := true) rfl wTop8_isf52 (indexII_spec l (fun x => decide (Sp.litSort x = Sp.litSort (st.getD i (0, [])).2)) (fun x : List Int => x.length ≤ 1000000 ∧ ∀ y ∈ x, -9223372036854775808 < y ∧ y ≤ 9223372036854775807) (fun x hx => Sp.okc_fine (by omega : n ≤ 1000) (hW.okc x hx))) (sa_cons (sh_row Zz rfl) (sa_cons (sh_clo Zz wTop8_isf53 (sl_cons (sh_ref1 Sees.same rfl rfl (sh_of Sees.same rfl)) (sl_nil)) (fun _ => rfl) (fun _ => rfl) (fun y => whyC1_spec y.1 (Sp.litSort (st.getD i (0, [])).2) y.2)) (sa_nil))) rfl) rfl (zm2 rfl rfl rfl (snil (f_seq (f_seq (f_region (zm1 rfl rfl rfl ?_)))))); refine zq (p_lss rfl Zz Zz) rfl (snil (f_cond rfl ?_ ?_))
          · intro hc5; (try simp only [bs] at hc5); refine f_seq (f_region (zm1 rfl rfl rfl ?_)); refine zq (p_build rfl wTop8_plc29 wTop8_zer29 (by decide) wTop8_zch29 rfl rfl) rfl (zm2 rfl rfl rfl ?_); refine scons (r_storeS rfl wTop8_siz29 rfl rfl rfl Zz rfl Zz rfl rfl rfl rfl) (snil (f_ret ?_))
            refine ends_ret (res_eq (res2 rfl (res_tmp rfl (Sees.of rfl)) (res_cell (by rfl) rfl rfl wTop8_agg29 wTop8_siz29 rfl rfl)) ?_)
            rw [hgo, Sp.why_bad (by omega) (by rw [Sp.jOk, if_neg hc3]; exact decide_eq_false (by show ¬ 0 ≤ Sp.idx _ _; omega))]
            rfl
          · intro hc5; (try simp only [bs] at hc5); refine f_skip ?_
            have hsr : (Sp.idx (fun x => decide (Sp.litSort x = Sp.litSort (st.getD i (0, [])).2)) l).toNat < l.length := Sp.sameI_rng (by show 0 ≤ Sp.idx _ _; omega)
            refine f_region (zm3 rfl rfl rfl (zm1 rfl rfl rfl (zm1 rfl rfl rfl ?_))); refine zq (p_add rfl Zz Zz (by omega)) rfl ?_; refine scons (r_callV rfl wTop8_isf55 (delII_spec u (Sp.idx (fun x => decide (Sp.litSort x = Sp.litSort (st.getD i (0, [])).2)) l) l (by omega) hsr) ⟨_, _, rfl, Zz, ⟨_, _, rfl, Zz, ⟨_, _, rfl, Zz, rfl⟩⟩⟩ ⟨rfl, trivial⟩ rfl (trivial) rfl rfl rfl rfl rfl rfl rfl) (zm4 rfl rfl rfl (snil (f_nil ?_))); show AWs _ _ _ _ _; refine f_region ?_; refine zq (p_add rfl Zz Zz (by omega)) rfl (zm1 rfl rfl rfl (snil ?_))
            have hj : Sp.jOk l (st.getD i (0, [])) = true := by rw [Sp.jOk, if_neg hc3]; exact decide_eq_true (by show 0 ≤ Sp.idx _ _; omega)
            have hcl : Sp.jCl l (st.getD i (0, [])) = Sp.rem l (Sp.idx (fun x => decide (Sp.litSort x = Sp.litSort (st.getD i (0, [])).2)) l) := by rw [Sp.jCl, if_neg hc3]; rfl
            refine f_back ⟨(i + 1, Sp.rem l (Sp.idx (fun x => decide (Sp.litSort x = Sp.litSort (st.getD i (0, [])).2)) l), u + 1), ?_, ?_, le_ofL ⟨rfl, rfl, rfl, rfl, rfl, rfl, rfl, rfl, trivial⟩ rfl⟩
            · refine ⟨by omega, ?_, ?_⟩
              · rw [hgo, Sp.why_step (by omega) hj, hcl]
              · have := hW.step hs.2.1 hj
                rw [hcl] at this
                exact this
            · show _ - (i + 1) < _ - i
              omega
      · intro hc2; (try simp only [bs] at hc2); refine f_exit ?_; show AWs _ _ _ _ _; refine f_seq (f_seq (f_region (zm3 rfl rfl rfl ?_))); refine zc (c_callS (q := true) rfl wTop8_isf56 (containsII_spec l (fun c => decide (c = [])) (fun _ => True) (fun _ _ => trivial)) (sa_cons (sh_row Zz rfl) (sa_cons (sh_clo Zz wTop8_isf57 (sl_nil) (fun _ => rfl) (fun _ => rfl) (fun y => why2_spec y.1)) (sa_nil))) rfl) rfl (snil (f_cond rfl ?_ ?_))
        · intro hc6; (try simp only [bs] at hc6); refine f_seq (f_region ?_); refine zq (p_build rfl wTop8_plc29 wTop8_zer29 (by decide) wTop8_zch29 rfl rfl) rfl (zm2 rfl rfl rfl ?_); refine scons (r_storeS rfl wTop8_siz29 rfl rfl rfl Zz rfl Zz rfl rfl rfl rfl) (snil (f_ret ?_))
          refine ends_ret (res_eq (res2 rfl (res_tmp rfl (Sees.of rfl)) (res_cell (by rfl) rfl rfl wTop8_agg29 wTop8_siz29 rfl rfl)) ?_)
          rw [hgo, Sp.why_yes (by omega) hc6]
          rfl
        · intro hc6; (try simp only [bs] at hc6); refine f_skip (f_seq (f_region (zm1 rfl rfl rfl ?_))); refine zq (p_len rfl wTop8_isl34 Zz) rfl ?_; refine zq (p_build rfl wTop8_plc29 wTop8_zer29 (by decide) wTop8_zch29 rfl rfl) rfl (zm2 rfl rfl rfl ?_); refine scons (r_storeS rfl wTop8_siz29 rfl rfl rfl Zz rfl Zz rfl rfl rfl rfl) (snil (f_ret ?_))
          refine ends_ret (res_eq (res2 rfl (res_tmp rfl (Sees.of rfl)) (res_cell (by rfl) rfl rfl wTop8_agg29 wTop8_siz29 rfl rfl)) ?_)
          obtain rfl : i = st.length := by omega
          rw [hgo, Sp.why_no (Nat.le_refl _) hc6]
          rfl

theorem jStep1_spec (n : Nat) (ls cl : List (List Int)) (c : List Int) (u : Nat) (hn : n ≤ 1000) (hw : (Sp.wrong n c).1 = 0) (hC : ∀ c ∈ cl, Sp.Cl c ∧ Sp.Fine c) (hF : Sp.Fine c) (hl : c.length ≤ 100000) (hr : cl.flatten.length ≤ 100000) (hlc : cl.length ≤ 100000) (hf : 0 ≤ (Sp.on cl (c.map fun x => -x) (List.replicate (c.map fun x => -x).length (-1))).2.2) :
    SpecB Go.Proofs.Tryz.prog 59 [.ref 30001 0 0, .val (dStp (1, c))] [(30000, .arr u 22 1 24 ints [] cl), (30001, .box 0 (.ccons (.val (trms [])) (.ccons (.val (bools [])) (.ccons (.val (atms (List.replicate n (1 : Int)))) (.ccons (.val (intss ls)) (.ccons (.row 30000 u) .cnil))))))] (D.bool true) [(30000, .arr (u + 1) 22 1 24 ints [] (cl ++ [c])), (30001, .box 0 (.ccons (.val (trms [])) (.ccons (.val (bools [])) (.ccons (.val (atms (List.replicate n (1 : Int)))) (.ccons (.val (intss ls)) (.ccons (.row 30000 (u + 1)) .cnil))))))] := by
  refine specB_of' Go.Proofs.Tryz.func59 rfl Go.Proofs.Tryz.ntmps59 rfl rfl rfl ?_
  refine f_seq (f_region ?_); refine scons (r_box (ob := 10003) rfl Zz rfl rfl rfl rfl rfl rfl) (zm2 rfl rfl rfl (snil (f_seq (f_seq (f_region ?_))))); refine zq (p_move (y := .ref _ _ _) rfl Zz rfl) rfl ?_; refine zq (p_loadBS rfl wTop8_agg54 wTop8_siz54 Zz rfl rfl rfl) rfl ?_; refine zc (c_callS (q := true) rfl wTop8_isf95 (formed_spec n ls cl 1 c (.inl rfl) hn) (sa_cons (sh_refD Zz rfl (shc_cons (sh_of Sees.same rfl) (shc_cons (sh_of Sees.same rfl) (shc_cons (sh_of Sees.same rfl) (shc_cons (sh_of Sees.same rfl) (shc_cons (sh_row Sees.same rfl) (shc_nil))))))) (sa_cons (sh_of Zz rfl) (sa_nil))) rfl) rfl ?_; refine zq (p_not rfl Zz) rfl (snil (f_cond rfl ?_ ?_))
  · intro hc1; (try simp only [bs] at hc1)
    exfalso
    exact hc1 hw
  · intro hc1; (try simp only [bs] at hc1); refine f_skip (f_seq (f_region (zm2 rfl rfl rfl (snil (f_seq (f_seq (f_region ?_))))))); refine zq (p_fieldRef rfl wTop8_fld54_0 wTop8_siz3 rfl Zz rfl) rfl ?_; refine zq (p_loadB (y := .val _) rfl wTop8_agg3 Zz rfl rfl rfl rfl) rfl (snil (f_block (f_seq (f_region ?_)))); refine zq (p_eql rfl Zz Zz) rfl (zm2 rfl rfl rfl (snil (f_cond rfl ?_ ?_)))
    · intro hc2; (try simp only [bs] at hc2); refine f_draw wTop8_mix (by kernel_rfl) ?_; refine yq (p_move (y := .ref _ _ _) rfl Zz rfl) rfl ?_; refine yq (p_nilRef rfl Zz rfl) rfl ?_; refine yq (p_fieldRef rfl wTop8_fld120_1 wTop8_siz23 rfl Zz rfl) rfl ?_; refine yq (p_loadB (y := .row _ _) rfl wTop8_agg23 Zz rfl rfl rfl rfl) rfl ?_; refine yq (p_fieldRef rfl wTop8_fld54_1 wTop8_siz22 rfl Zz rfl) rfl ?_; refine yq (p_loadB (y := .val _) rfl wTop8_agg22 Zz rfl rfl rfl rfl) rfl ?_; refine yc (c_callS (q := true) rfl wTop8_isf50 (Falls_spec cl c hC hF hl hr hlc) (sa_cons (sh_row Zz rfl) (sa_cons (sh_of Zz rfl) (sa_nil))) rfl) rfl (zd2 rfl rfl rfl ?_); refine dnil (by kernel_rfl) (f_nil ?_); show AWs _ _ _ _ _; refine f_seq (f_seq (f_region (zm1 rfl rfl rfl (snil (f_cond rfl ?_ ?_)))))
      · intro hc3; (try simp only [bs] at hc3); refine f_draw wTop8_mix (by kernel_rfl) ?_; refine yq (p_move (y := .ref _ _ _) rfl Zz rfl) rfl ?_; refine yq (p_move (y := .ref _ _ _) rfl Zz rfl) rfl ?_; refine yq (p_nilRef rfl Zz rfl) rfl ?_; refine yq (p_fieldRef rfl wTop8_fld120_1 wTop8_siz23 rfl Zz rfl) rfl ?_; refine yq (p_loadB (y := .row _ _) rfl wTop8_agg23 Zz rfl rfl rfl rfl) rfl ?_; refine yq (p_fieldRef rfl wTop8_fld54_1 wTop8_siz22 rfl Zz rfl) rfl ?_; refine yq (p_loadB (y := .val _) rfl wTop8_agg22 Zz rfl rfl rfl rfl) rfl ?_; refine yc (c_buildSlice (f := ints) (za := []) (xs := [.tmp 112]) rfl rfl wTop8_isl23 wTop8_siz22 wTop8_zer22 rfl rfl ⟨_, _, rfl, Zz, rfl, rfl, rfl⟩) rfl ?_; refine dcons (r_appendR (ob := 30000) rfl wTop8_isl23 wTop8_siz22 wTop8_byt22 wTop8_zer22 rfl rfl Zz rfl Zz (by simp only [List.length_cons, List.length_nil]; omega) (by simp only [List.length_cons, List.length_nil]; omega) rfl rfl rfl rfl rfl) ?_; refine yq (p_nilRef rfl Zz rfl) rfl ?_; refine yq (p_fieldRef rfl wTop8_fld120_1 wTop8_siz23 rfl Zz rfl) rfl ?_; refine dcons (r_storeR rfl wTop8_siz23 rfl rfl rfl Zz rfl rfl Zz rfl) ?_; refine dnil (by kernel_rfl) (f_seq (f_region (zm1 rfl rfl rfl (zm2 rfl rfl rfl (snil (f_ret ?_))))))
        refine endsB_ret (resB_eq (resB_tmp rfl rfl (Sees.of rfl)) ?_) ⟨rfl, rfl, rfl, trivial⟩ rfl
        rw [decide_eq_true hf]
      · intro hc3; (try simp only [bs] at hc3)
        exfalso
        omega
    · intro hc2; (try simp only [bs] at hc2)
      exact absurd trivial hc2

theorem jStep1N_spec (n : Nat) (ls cl : List (List Int)) (c : List Int) (u : Nat) (hn : n ≤ 1000) (hw : (Sp.wrong n c).1 = 0) (hC : ∀ c ∈ cl, Sp.Cl c ∧ Sp.Fine c) (hF : Sp.Fine c) (hl : c.length ≤ 100000) (hr : cl.flatten.length ≤ 100000) (hlc : cl.length ≤ 100000) (hf : (Sp.on cl (c.map fun x => -x) (List.replicate (c.map fun x => -x).length (-1))).2.2 < 0) :
    SpecB Go.Proofs.Tryz.prog 59 [.ref 30001 0 0, .val (dStp (1, c))] [(30000, .arr u 22 1 24 ints [] cl), (30001, .box 0 (.ccons (.val (trms [])) (.ccons (.val (bools [])) (.ccons (.val (atms (List.replicate n (1 : Int)))) (.ccons (.val (intss ls)) (.ccons (.row 30000 u) .cnil))))))] (D.bool false) [(30000, .arr u 22 1 24 ints [] cl), (30001, .box 0 (.ccons (.val (trms [])) (.ccons (.val (bools [])) (.ccons (.val (atms (List.replicate n (1 : Int)))) (.ccons (.val (intss ls)) (.ccons (.row 30000 u) .cnil))))))] := by
  refine specB_of' Go.Proofs.Tryz.func59 rfl Go.Proofs.Tryz.ntmps59 rfl rfl rfl ?_
  refine f_seq (f_region ?_); refine scons (r_box (ob := 10003) rfl Zz rfl rfl rfl rfl rfl rfl) (zm2 rfl rfl rfl (snil (f_seq (f_seq (f_region ?_))))); refine zq (p_move (y := .ref _ _ _) rfl Zz rfl) rfl ?_; refine zq (p_loadBS rfl wTop8_agg54 wTop8_siz54 Zz rfl rfl rfl) rfl ?_; refine zc (c_callS (q := true) rfl wTop8_isf95 (formed_spec n ls cl 1 c (.inl rfl) hn) (sa_cons (sh_refD Zz rfl (shc_cons (sh_of Sees.same rfl) (shc_cons (sh_of Sees.same rfl) (shc_cons (sh_of Sees.same rfl) (shc_cons (sh_of Sees.same rfl) (shc_cons (sh_row Sees.same rfl) (shc_nil))))))) (sa_cons (sh_of Zz rfl) (sa_nil))) rfl) rfl ?_; refine zq (p_not rfl Zz) rfl (snil (f_cond rfl ?_ ?_))
  · intro hc1; (try simp only [bs] at hc1)
    exfalso
    exact hc1 hw
  · intro hc1; (try simp only [bs] at hc1); refine f_skip (f_seq (f_region (zm2 rfl rfl rfl (snil (f_seq (f_seq (f_region ?_))))))); refine zq (p_fieldRef rfl wTop8_fld54_0 wTop8_siz3 rfl Zz rfl) rfl ?_; refine zq (p_loadB (y := .val _) rfl wTop8_agg3 Zz rfl rfl rfl rfl) rfl (snil (f_block (f_seq (f_region ?_)))); refine zq (p_eql rfl Zz Zz) rfl (zm2 rfl rfl rfl (snil (f_cond rfl ?_ ?_)))
    · intro hc2; (try simp only [bs] at hc2); refine f_draw wTop8_mix (by kernel_rfl) ?_; refine yq (p_move (y := .ref _ _ _) rfl Zz rfl) rfl ?_; refine yq (p_nilRef rfl Zz rfl) rfl ?_; refine yq (p_fieldRef rfl wTop8_fld120_1 wTop8_siz23 rfl Zz rfl) rfl ?_; refine yq (p_loadB (y := .row _ _) rfl wTop8_agg23 Zz rfl rfl rfl rfl) rfl ?_; refine yq (p_fieldRef rfl wTop8_fld54_1 wTop8_siz22 rfl Zz rfl) rfl ?_; refine yq (p_loadB (y := .val _) rfl wTop8_agg22 Zz rfl rfl rfl rfl) rfl ?_; refine yc (c_callS (q := true) rfl wTop8_isf50 (Falls_spec cl c hC hF hl hr hlc) (sa_cons (sh_row Zz rfl) (sa_cons (sh_of Zz rfl) (sa_nil))) rfl) rfl (zd2 rfl rfl rfl ?_); refine dnil (by kernel_rfl) (f_nil ?_); show AWs _ _ _ _ _; refine f_seq (f_seq (f_region (zm1 rfl rfl rfl (snil (f_cond rfl ?_ ?_)))))
      · intro hc3; (try simp only [bs] at hc3)
        exfalso
        omega
      · intro hc3; (try simp only [bs] at hc3); refine f_skip (f_seq (f_region (zm1 rfl rfl rfl (zm2 rfl rfl rfl (snil (f_ret ?_))))))
        refine endsB_ret (resB_eq (resB_tmp rfl rfl (Sees.of rfl)) ?_) ⟨rfl, rfl, rfl, trivial⟩ rfl
        rw [decide_eq_false (by omega)]
    · intro hc2; (try simp only [bs] at hc2)
      exact absurd trivial hc2

theorem jStep2_spec (n : Nat) (ls cl : List (List Int)) (c : List Int) (u : Nat) (hn : n ≤ 1000) (hw : (Sp.wrong n c).1 = 0) (hF : c.length ≤ 1000000 ∧ ∀ y ∈ c, -9223372036854775808 < y ∧ y ≤ 9223372036854775807) (hO : ∀ x ∈ cl, Sp.Okc n x) (hlc : cl.length ≤ 100000) (hx : 0 ≤ (Sp.idx (fun x => decide (Sp.litSort x = Sp.litSort c)) cl)) (hsr : (Sp.idx (fun x => decide (Sp.litSort x = Sp.litSort c)) cl).toNat < cl.length) :
    SpecB Go.Proofs.Tryz.prog 59 [.ref 30001 0 0, .val (dStp (2, c))] [(30000, .arr u 22 1 24 ints [] cl), (30001, .box 0 (.ccons (.val (trms [])) (.ccons (.val (bools [])) (.ccons (.val (atms (List.replicate n (1 : Int)))) (.ccons (.val (intss ls)) (.ccons (.row 30000 u) .cnil))))))] (D.bool true) [(30000, .arr (u + 1) 22 1 24 ints [] (Sp.rem cl (Sp.idx (fun x => decide (Sp.litSort x = Sp.litSort c)) cl))), (30001, .box 0 (.ccons (.val (trms [])) (.ccons (.val (bools [])) (.ccons (.val (atms (List.replicate n (1 : Int)))) (.ccons (.val (intss ls)) (.ccons (.row 30000 (u + 1)) .cnil))))))] := by
  refine specB_of' Go.Proofs.Tryz.func59 rfl Go.Proofs.Tryz.ntmps59 rfl rfl rfl ?_
  refine f_seq (f_region ?_); refine scons (r_box (ob := 10003) rfl Zz rfl rfl rfl rfl rfl rfl) (zm2 rfl rfl rfl (snil (f_seq (f_seq (f_region ?_))))); refine zq (p_move (y := .ref _ _ _) rfl Zz rfl) rfl ?_; refine zq (p_loadBS rfl wTop8_agg54 wTop8_siz54 Zz rfl rfl rfl) rfl ?_; refine zc (c_callS (q := true) rfl wTop8_isf95 (formed_spec n ls cl 2 c (.inr rfl) hn) (sa_cons (sh_refD Zz rfl (shc_cons (sh_of Sees.same rfl) (shc_cons (sh_of Sees.same rfl) (shc_cons (sh_of Sees.same rfl) (shc_cons (sh_of Sees.same rfl) (shc_cons (sh_row Sees.same rfl) (shc_nil))))))) (sa_cons (sh_of Zz rfl) (sa_nil))) rfl) rfl ?_; refine zq (p_not rfl Zz) rfl (snil (f_cond rfl ?_ ?_))
  · intro hc1; (try simp only [bs] at hc1)
    exfalso
    exact hc1 hw
  · intro hc1; (try simp only [bs] at hc1); refine f_skip (f_seq (f_region (zm2 rfl rfl rfl (snil (f_seq (f_seq (f_region ?_))))))); refine zq (p_fieldRef rfl wTop8_fld54_0 wTop8_siz3 rfl Zz rfl) rfl ?_; refine zq (p_loadB (y := .val _) rfl wTop8_agg3 Zz rfl rfl rfl rfl) rfl (snil (f_block (f_seq (f_region ?_)))); refine zq (p_eql rfl Zz Zz) rfl (zm2 rfl rfl rfl (snil (f_cond rfl ?_ ?_)))
    · intro hc2; (try simp only [bs] at hc2)
      exact absurd hc2 (by decide)
    · intro hc2; (try simp only [bs] at hc2); refine f_seq (f_region ?_); refine zq (p_eql rfl Zz Zz) rfl (zm2 rfl rfl rfl (snil (f_cond rfl ?_ ?_)))
      · intro hc3; (try simp only [bs] at hc3)
        exact absurd hc3 (by decide)
      · intro hc3; (try simp only [bs] at hc3); refine f_seq (f_region ?_); refine zq (p_eql rfl Zz Zz) rfl (zm2 rfl rfl rfl (snil (f_cond rfl ?_ ?_)))
        · intro hc4; (try simp only [bs] at hc4)
          exact absurd hc4 (by decide)
        · intro hc4; (try simp only [bs] at hc4); refine f_seq (f_region ?_); refine zq (p_eql rfl Zz Zz) rfl (zm2 rfl rfl rfl (snil (f_cond rfl ?_ ?_)))
          · intro hc5; (try simp only [bs] at hc5)
            exact absurd hc5 (by decide)
          · intro hc5; (try simp only [bs] at hc5); refine f_seq (f_region ?_); refine zq (p_eql rfl Zz Zz) rfl (zm2 rfl rfl rfl (snil (f_cond rfl ?_ ?_)))
            · intro hc6; (try simp only [bs] at hc6); refine f_seq (f_region ?_); refine zq (p_fieldRef rfl wTop8_fld54_1 wTop8_siz22 rfl Zz rfl) rfl ?_; refine zq (p_loadB (y := .val _) rfl wTop8_agg22 Zz rfl rfl rfl rfl) rfl ?_; refine zc (c_call rfl wTop8_isf51 ⟨_, _, rfl, Zz, rfl, rfl⟩ (sorted_spec c hF.1 hF.2)) rfl ?_; refine scons (r_alloc (ob := 10006) rfl wTop8_zer22 rfl rfl rfl rfl rfl rfl) ?_; refine scons (r_store rfl wTop8_siz22 rfl rfl rfl Zz rfl rfl Zz (one_val rfl)) (snil (f_seq (f_region ?_))); refine zq (p_move (y := .ref _ _ _) rfl Zz rfl) rfl ?_; refine zq (p_nilRef rfl Zz rfl) rfl ?_; refine zq (p_fieldRef rfl wTop8_fld120_1 wTop8_siz23 rfl Zz rfl) rfl ?_; refine zq (p_loadB (y := .row _ _) rfl wTop8_agg23 Zz rfl rfl rfl rfl) rfl ?_; refine zq (p_makeFunc (l := [.tmp 6]) rfl) rfl ?_; refine zc (c_callS (q := true) rfl wTop8_isf52 (indexII_spec cl (fun x => decide (Sp.litSort x = Sp.litSort c)) (fun x : List Int => x.length ≤ 1000000 ∧ ∀ y ∈ x, -9223372036854775808 < y ∧ y ≤ 9223372036854775807) (fun x hx => Sp.okc_fine hn (hO x hx))) (sa_cons (sh_row Zz rfl) (sa_cons (sh_clo Zz wTop8_isf99 (sl_cons (sh_ref1 Sees.same rfl rfl (sh_of Sees.same rfl)) (sl_nil)) (fun _ => rfl) (fun _ => rfl) (fun y => whyJ1_spec y.1 (Sp.litSort c) y.2)) (sa_nil))) rfl) rfl (zm2 rfl rfl rfl (snil (f_seq (f_seq (f_region (zm1 rfl rfl rfl ?_)))))); refine zq (p_geq rfl Zz Zz) rfl (snil (f_cond rfl ?_ ?_))
              · intro hc7; (try simp only [bs] at hc7); refine f_region ?_; refine zq (p_move (y := .ref _ _ _) rfl Zz rfl) rfl ?_; refine zq (p_move (y := .ref _ _ _) rfl Zz rfl) rfl ?_; refine zq (p_nilRef rfl Zz rfl) rfl ?_; refine zq (p_fieldRef rfl wTop8_fld120_1 wTop8_siz23 rfl Zz rfl) rfl ?_; refine zq (p_loadB (y := .row _ _) rfl wTop8_agg23 Zz rfl rfl rfl rfl) rfl (zm1 rfl rfl rfl (zm1 rfl rfl rfl ?_)); refine zq (p_add rfl Zz Zz (by omega)) rfl ?_; refine scons (r_callV rfl wTop8_isf55 (delII_spec u (Sp.idx (fun x => decide (Sp.litSort x = Sp.litSort c)) cl) cl hx hsr) ⟨_, _, rfl, Zz, ⟨_, _, rfl, Zz, ⟨_, _, rfl, Zz, rfl⟩⟩⟩ ⟨rfl, trivial⟩ rfl (trivial) rfl rfl rfl rfl rfl rfl rfl) ?_; refine zq (p_nilRef rfl Zz rfl) rfl ?_; refine zq (p_fieldRef rfl wTop8_fld120_1 wTop8_siz23 rfl Zz rfl) rfl ?_; refine scons (r_storeR rfl wTop8_siz23 rfl rfl rfl Zz rfl rfl Zz rfl) (snil (f_seq (f_region (zm1 rfl rfl rfl ?_)))); refine zq (p_geq rfl Zz Zz) rfl (zm2 rfl rfl rfl (snil (f_ret ?_)))
                refine endsB_ret (resB_eq (resB_tmp rfl rfl (Sees.of rfl)) ?_) ⟨rfl, rfl, rfl, trivial⟩ rfl
                rw [decide_eq_true hx]
              · intro hc7; (try simp only [bs] at hc7)
                exfalso
                omega
            · intro hc6; (try simp only [bs] at hc6)
              exact absurd trivial hc6

theorem jStep2N_spec (n : Nat) (ls cl : List (List Int)) (c : List Int) (u : Nat) (hn : n ≤ 1000) (hw : (Sp.wrong n c).1 = 0) (hF : c.length ≤ 1000000 ∧ ∀ y ∈ c, -9223372036854775808 < y ∧ y ≤ 9223372036854775807) (hO : ∀ x ∈ cl, Sp.Okc n x) (hlc : cl.length ≤ 100000) (hx : (Sp.idx (fun x => decide (Sp.litSort x = Sp.litSort c)) cl) < 0) :
    SpecB Go.Proofs.Tryz.prog 59 [.ref 30001 0 0, .val (dStp (2, c))] [(30000, .arr u 22 1 24 ints [] cl), (30001, .box 0 (.ccons (.val (trms [])) (.ccons (.val (bools [])) (.ccons (.val (atms (List.replicate n (1 : Int)))) (.ccons (.val (intss ls)) (.ccons (.row 30000 u) .cnil))))))] (D.bool false) [(30000, .arr u 22 1 24 ints [] cl), (30001, .box 0 (.ccons (.val (trms [])) (.ccons (.val (bools [])) (.ccons (.val (atms (List.replicate n (1 : Int)))) (.ccons (.val (intss ls)) (.ccons (.row 30000 u) .cnil))))))] := by
  refine specB_of' Go.Proofs.Tryz.func59 rfl Go.Proofs.Tryz.ntmps59 rfl rfl rfl ?_
  refine f_seq (f_region ?_); refine scons (r_box (ob := 10003) rfl Zz rfl rfl rfl rfl rfl rfl) (zm2 rfl rfl rfl (snil (f_seq (f_seq (f_region ?_))))); refine zq (p_move (y := .ref _ _ _) rfl Zz rfl) rfl ?_; refine zq (p_loadBS rfl wTop8_agg54 wTop8_siz54 Zz rfl rfl rfl) rfl ?_; refine zc (c_callS (q := true) rfl wTop8_isf95 (formed_spec n ls cl 2 c (.inr rfl) hn) (sa_cons (sh_refD Zz rfl (shc_cons (sh_of Sees.same rfl) (shc_cons (sh_of Sees.same rfl) (shc_cons (sh_of Sees.same rfl) (shc_cons (sh_of Sees.same rfl) (shc_cons (sh_row Sees.same rfl) (shc_nil))))))) (sa_cons (sh_of Zz rfl) (sa_nil))) rfl) rfl ?_; refine zq (p_not rfl Zz) rfl (snil (f_cond rfl ?_ ?_))
  · intro hc1; (try simp only [bs] at hc1)
    exfalso
    exact hc1 hw
  · intro hc1; (try simp only [bs] at hc1); refine f_skip (f_seq (f_region (zm2 rfl rfl rfl (snil (f_seq (f_seq (f_region ?_))))))); refine zq (p_fieldRef rfl wTop8_fld54_0 wTop8_siz3 rfl Zz rfl) rfl ?_; refine zq (p_loadB (y := .val _) rfl wTop8_agg3 Zz rfl rfl rfl rfl) rfl (snil (f_block (f_seq (f_region ?_)))); refine zq (p_eql rfl Zz Zz) rfl (zm2 rfl rfl rfl (snil (f_cond rfl ?_ ?_)))
    · intro hc2; (try simp only [bs] at hc2)
      exact absurd hc2 (by decide)
    · intro hc2; (try simp only [bs] at hc2); refine f_seq (f_region ?_); refine zq (p_eql rfl Zz Zz) rfl (zm2 rfl rfl rfl (snil (f_cond rfl ?_ ?_)))
      · intro hc3; (try simp only [bs] at hc3)
        exact absurd hc3 (by decide)
      · intro hc3; (try simp only [bs] at hc3); refine f_seq (f_region ?_); refine zq (p_eql rfl Zz Zz) rfl (zm2 rfl rfl rfl (snil (f_cond rfl ?_ ?_)))
        · intro hc4; (try simp only [bs] at hc4)
          exact absurd hc4 (by decide)
        · intro hc4; (try simp only [bs] at hc4); refine f_seq (f_region ?_); refine zq (p_eql rfl Zz Zz) rfl (zm2 rfl rfl rfl (snil (f_cond rfl ?_ ?_)))
          · intro hc5; (try simp only [bs] at hc5)
            exact absurd hc5 (by decide)
          · intro hc5; (try simp only [bs] at hc5); refine f_seq (f_region ?_); refine zq (p_eql rfl Zz Zz) rfl (zm2 rfl rfl rfl (snil (f_cond rfl ?_ ?_)))
            · intro hc6; (try simp only [bs] at hc6); refine f_seq (f_region ?_); refine zq (p_fieldRef rfl wTop8_fld54_1 wTop8_siz22 rfl Zz rfl) rfl ?_; refine zq (p_loadB (y := .val _) rfl wTop8_agg22 Zz rfl rfl rfl rfl) rfl ?_; refine zc (c_call rfl wTop8_isf51 ⟨_, _, rfl, Zz, rfl, rfl⟩ (sorted_spec c hF.1 hF.2)) rfl ?_; refine scons (r_alloc (ob := 10006) rfl wTop8_zer22 rfl rfl rfl rfl rfl rfl) ?_; refine scons (r_store rfl wTop8_siz22 rfl rfl rfl Zz rfl rfl Zz (one_val rfl)) (snil (f_seq (f_region ?_))); refine zq (p_move (y := .ref _ _ _) rfl Zz rfl) rfl ?_; refine zq (p_nilRef rfl Zz rfl) rfl ?_; refine zq (p_fieldRef rfl wTop8_fld120_1 wTop8_siz23 rfl Zz rfl) rfl ?_; refine zq (p_loadB (y := .row _ _) rfl wTop8_agg23 Zz rfl rfl rfl rfl) rfl ?_; refine zq (p_makeFunc (l := [.tmp 6]) rfl) rfl ?_; refine zc (c_callS (q := true) rfl wTop8_isf52 (indexII_spec cl (fun x => decide (Sp.litSort x = Sp.litSort c)) (fun x : List Int => x.length ≤ 1000000 ∧ ∀ y ∈ x, -9223372036854775808 < y ∧ y ≤ 9223372036854775807) (fun x hx => Sp.okc_fine hn (hO x hx))) (sa_cons (sh_row Zz rfl) (sa_cons (sh_clo Zz wTop8_isf99 (sl_cons (sh_ref1 Sees.same rfl rfl (sh_of Sees.same rfl)) (sl_nil)) (fun _ => rfl) (fun _ => rfl) (fun y => whyJ1_spec y.1 (Sp.litSort c) y.2)) (sa_nil))) rfl) rfl (zm2 rfl rfl rfl (snil (f_seq (f_seq (f_region (zm1 rfl rfl rfl ?_)))))); refine zq (p_geq rfl Zz Zz) rfl (snil (f_cond rfl ?_ ?_))
              · intro hc7; (try simp only [bs] at hc7)
                exfalso
                omega
              · intro hc7; (try simp only [bs] at hc7); refine f_skip (f_seq (f_region (zm1 rfl rfl rfl ?_))); refine zq (p_geq rfl Zz Zz) rfl (zm2 rfl rfl rfl (snil (f_ret ?_)))
                refine endsB_ret (resB_eq (resB_tmp rfl rfl (Sees.of rfl)) ?_) ⟨rfl, rfl, rfl, trivial⟩ rfl
                rw [decide_eq_false (by omega)]
            · intro hc6; (try simp only [bs] at hc6)
              exact absurd trivial hc6

theorem jStepD_spec (n : Nat) (ls cl : List (List Int)) (s : Sp.Sk) (u : Nat) (hn : n ≤ 1000) (hk : s.1 = 1 ∨ s.1 = 2) (hw : (Sp.wrong n s.2).1 = 0) (hF : Sp.Fine s.2) (hl : s.2.length ≤ 100000) (hO : ∀ x ∈ cl, Sp.Okc n x) (hC : ∀ c ∈ cl, Sp.Cl c ∧ Sp.Fine c) (hr : cl.flatten.length ≤ 100000) (hlc : cl.length ≤ 100000) :
    SpecB Go.Proofs.Tryz.prog 59 [.ref 30001 0 0, .val (dStp s)] [(30000, .arr u 22 1 24 ints [] cl), (30001, .box 0 (.ccons (.val (trms [])) (.ccons (.val (bools [])) (.ccons (.val (atms (List.replicate n (1 : Int)))) (.ccons (.val (intss ls)) (.ccons (.row 30000 u) .cnil))))))] (D.bool (Sp.jOk cl s)) [(30000, .arr (u + Sp.jVer cl s) 22 1 24 ints [] (Sp.jEnd cl s)), (30001, .box 0 (.ccons (.val (trms [])) (.ccons (.val (bools [])) (.ccons (.val (atms (List.replicate n (1 : Int)))) (.ccons (.val (intss ls)) (.ccons (.row 30000 (u + Sp.jVer cl s)) .cnil))))))] := by
  have hcf := Sp.okc_fine hn (Sp.wrong_iff.1 hw)
  obtain ⟨k, c⟩ := s
  rcases hk with rfl | rfl
  · by_cases h : 0 ≤ (Sp.on cl (c.map fun x => -x) (List.replicate (c.map fun x => -x).length (-1))).2.2
    · have hj : Sp.jOk cl (1, c) = true := by rw [Sp.jOk_1]; exact decide_eq_true h
      rw [hj, Sp.jVer_yes hj, Sp.jEnd_yes hj, Sp.jCl_1]
      exact jStep1_spec n ls cl c u hn hw hC hF hl hr hlc h
    · have hj : Sp.jOk cl (1, c) = false := by rw [Sp.jOk_1]; exact decide_eq_false h
      rw [hj, Sp.jVer_no hj, Sp.jEnd_no hj]
      exact jStep1N_spec n ls cl c u hn hw hC hF hl hr hlc (by omega)
  · by_cases h : 0 ≤ Sp.sameI cl c
    · have hj : Sp.jOk cl (2, c) = true := by rw [Sp.jOk_2]; exact decide_eq_true h
      rw [hj, Sp.jVer_yes hj, Sp.jEnd_yes hj, Sp.jCl_2]
      exact jStep2_spec n ls cl c u hn hw hcf hO hlc h (Sp.sameI_rng h)
    · have hj : Sp.jOk cl (2, c) = false := by rw [Sp.jOk_2]; exact decide_eq_false h
      rw [hj, Sp.jVer_no hj, Sp.jEnd_no hj]
      exact jStep2N_spec n ls cl c u hn hw hcf hO hlc (by show Sp.sameI cl c < 0; omega)
set_option maxHeartbeats 2000000 in
theorem jWhyD_spec (n : Nat) (ls : List (List Int)) (st : List Sp.Sk) (h : Sp.Sts n ls st) (hn : n ≤ 24) :
    Spec Go.Proofs.Tryz.prog 18 [.val (frm (List.replicate n (1 : Int)) ls), .val (stps st)] (two (di (Sp.whyGo ls 0 st)) (fault 0 0)) := by
  refine spec_of' Go.Proofs.Tryz.func18 rfl Go.Proofs.Tryz.ntmps18 rfl ?_
  refine f_seq ?_
  have hll := h.ll
  have hnn := (Sp.check_ok h.ck).1
  have hcc := (Sp.check_ok h.ck).2.1
  have hz := Sp.check_zero h.ck
  refine f_region ?_; refine scons (r_box (ob := 10002) rfl Zz rfl rfl rfl rfl rfl rfl) (zm2 rfl rfl rfl ?_); refine scons (r_alloc (ob := 10005) rfl wTop8_zer29 rfl rfl rfl rfl rfl rfl) (snil (f_seq (f_seq (f_region ?_)))); refine zq (p_loadBS rfl wTop8_agg61 wTop8_siz61 Zz rfl rfl rfl) rfl ?_; refine zc (c_call rfl wTop8_isf58 ⟨_, _, rfl, Zz, rfl, rfl⟩ (formCheck_spec n ls (by omega))) rfl ?_; refine scons (r_alloc (ob := 10006) rfl wTop8_zer29 rfl rfl rfl rfl rfl rfl) ?_; refine scons (r_storeS rfl wTop8_siz29 rfl rfl rfl Zz rfl Zz rfl rfl rfl rfl) (snil (f_seq (f_region ?_))); refine zq (p_fieldRef rfl wTop8_fld29_0 wTop8_siz3 rfl Zz rfl) rfl ?_; refine zq (p_loadB (y := .val _) rfl wTop8_agg3 Zz rfl rfl rfl rfl) rfl ?_; refine zq (p_neq rfl Zz Zz) rfl (snil (f_cond rfl ?_ ?_))
  · intro hc1; (try simp only [bs] at hc1)
    exact absurd h.ck hc1
  · intro hc1; (try simp only [bs] at hc1); refine f_skip (f_seq (f_seq (f_region (zm1 rfl rfl rfl ?_)))); refine zq (p_len rfl wTop8_isl34 Zz) rfl ?_; refine zq (p_gtr rfl Zz Zz) rfl (snil (f_cond rfl ?_ ?_))
    · intro hc2; (try simp only [bs] at hc2)
      exfalso
      omega
    · intro hc2; (try simp only [bs] at hc2); refine f_skip (f_seq ?_); refine f_draw wTop8_mix (by kernel_rfl) ?_; refine yq (p_loadBS rfl wTop8_agg61 wTop8_siz61 Zz rfl rfl rfl) rfl ?_; refine yq (p_fieldRef rfl wTop8_fld61_3 wTop8_siz23 rfl Zz rfl) rfl ?_; refine yq (p_loadB (y := .val _) rfl wTop8_agg23 Zz rfl rfl rfl rfl) rfl ?_; refine dcons (r_callS (q := false) (ob := 30000) [] rfl wTop8_isf49 (cloneII_spec ls (by omega)) (sa_cons (sh_of Zz rfl) (sa_nil)) (.inl rfl) rfl rfl rfl rfl rfl) ?_; refine yq (p_build41 rfl wTop8_plc120 wTop8_zer120 rfl Zz rfl rfl rfl rfl Zz rfl) rfl ?_; refine dcons (r_box (ob := 30001) rfl Zz rfl rfl rfl rfl rfl rfl) ?_; refine yq (p_assign (y := .ref _ _ _) rfl Zz rfl) rfl ?_; refine dnil (by kernel_rfl) (f_seq (f_seq (f_region (zm1 rfl rfl rfl ?_)))); refine zq (p_len rfl wTop8_isl34 Zz) rfl (zm1 rfl rfl rfl (snil (f_block ?_)))
      refine f_loop (α := Nat × List (List Int) × Nat) (fun (i, l, u) => i ≤ st.length ∧ Sp.whyGo ls 0 st = Sp.whyGo l i (st.drop i) ∧ Sp.Wy n (ls.length + i) l) (fun (i, l, u) => [(28, iv i), (7, .ref 30001 0 0), (30000, .arr u 22 1 24 ints [] l), (30001, .box 0 (.ccons (.val (trms [])) (.ccons (.val (bools [])) (.ccons (.val (atms (List.replicate n (1 : Int)))) (.ccons (.val (intss ls)) (.ccons (.row 30000 u) .cnil)))))), (1, .val (stps st)), (5, .ref 10005 0 0), (26, .val (stps st)), (27, iv st.length), (10005, .box 0 (.ccons (iv 0) (.ccons (iv 0) .cnil)))]) (fun (i, l, u) => st.length - i) (0, ls, 0) ?_ ?_ ?_
      · exact ⟨Nat.zero_le _, rfl, Nat.le_refl _, Sp.check_okc h.ck⟩
      · exact le_ofL ⟨rfl, rfl, rfl, rfl, rfl, rfl, rfl, rfl, rfl, trivial⟩ rfl
      · rintro ⟨i, l, u⟩ ⟨hi, hgo, hW⟩
        have hi : i ≤ st.length := hi
        refine f_seq (f_region ?_); refine zq (p_lss rfl Zz Zz) rfl (snil (f_seq (f_cond rfl ?_ ?_)))
        · intro hc3; (try simp only [bs] at hc3); refine f_skip (f_seq (f_block (f_seq (f_region (zm1 rfl rfl rfl ?_))))); refine zq ((by first | exact p_indexN rfl wTop8_isl34 wTop8_siz54 Zz Zz (by omega) | exact p_index rfl wTop8_isl34 wTop8_siz54 Zz Zz (by omega) (by omega))) rfl ?_; refine zq (p_loadS rfl wTop8_agg54 wTop8_siz54 Zz ⟨rfl, fun h => R_len rfl h⟩) rfl ?_; refine scons (r_alloc (ob := 10009) rfl wTop8_zer54 rfl rfl rfl rfl rfl rfl) (zm2 rfl rfl rfl ?_); refine scons (r_storeS rfl wTop8_siz54 rfl rfl rfl Zz rfl Zz rfl rfl rfl rfl) (snil (f_seq ?_))
          have hs := h.ok _ (Sp.getD_mem st i (0, []) (by omega))
          have hwc := Sp.wrong_iff.1 hs.2.1
          have hcf := Sp.okc_fine (by omega : n ≤ 1000) hwc
          obtain ⟨hr1, hr2, hr3⟩ := hW.room hn (by omega)
          have hWl := hW.len
          refine f_region ?_; refine zq (p_move (y := .ref _ _ _) rfl Zz rfl) rfl ?_; refine zq (p_loadBS rfl wTop8_agg54 wTop8_siz54 Zz rfl rfl rfl) rfl ?_; refine scons (r_callB rfl wTop8_isf59 (jStepD_spec n ls l (st.getD i (0, [])) u (by omega) hs.1 hs.2.1 (fun x hx => by have := hwc.1 x hx; omega) (by omega) hW.okc hr1 hr2 (by omega)) ⟨_, _, rfl, Zz, ⟨_, _, rfl, Zz, rfl⟩⟩ ⟨rfl, rfl, trivial⟩ rfl rfl rfl rfl rfl rfl) ?_; refine zq (p_not rfl Zz) rfl (snil (f_cond rfl ?_ ?_))
          · intro hc4; (try simp only [bs] at hc4); refine f_seq (f_region (zm1 rfl rfl rfl ?_)); refine zq (p_build rfl wTop8_plc29 wTop8_zer29 (by decide) wTop8_zch29 rfl rfl) rfl (zm2 rfl rfl rfl ?_); refine scons (r_storeS rfl wTop8_siz29 rfl rfl rfl Zz rfl Zz rfl rfl rfl rfl) (snil (f_ret ?_))
            refine ends_ret (res_eq (res2 rfl (res_tmp rfl (Sees.of rfl)) (res_cell (by rfl) rfl rfl wTop8_agg29 wTop8_siz29 rfl rfl)) ?_)
            rw [hgo, Sp.why_bad (by omega) hc4]
            rfl
          · intro hc4; (try simp only [bs] at hc4); refine f_skip (f_nil ?_); show AWs _ _ _ _ _; refine f_region ?_; refine zq (p_add rfl Zz Zz (by omega)) rfl (zm1 rfl rfl rfl (snil ?_))
            have hj : Sp.jOk l (st.getD i (0, [])) = true := by simpa using hc4
            refine f_back ⟨(i + 1, Sp.jEnd l (st.getD i (0, [])), u + Sp.jVer l (st.getD i (0, []))), ?_, ?_, le_ofL ⟨rfl, rfl, rfl, rfl, rfl, rfl, rfl, rfl, rfl, trivial⟩ rfl⟩
            · refine ⟨by omega, ?_, ?_⟩
              · rw [hgo, Sp.why_step (by omega) hj, Sp.jEnd_yes hj]
              · have := hW.step hs.2.1 hj
                rw [Sp.jEnd_yes hj]
                exact this
            · show _ - (i + 1) < _ - i
              omega
        · intro hc3; (try simp only [bs] at hc3); refine f_exit ?_; show AWs _ _ _ _ _; refine f_seq (f_seq (f_region ?_)); refine zq (p_move (y := .ref _ _ _) rfl Zz rfl) rfl ?_; refine zq (p_nilRef rfl Zz rfl) rfl ?_; refine zq (p_fieldRef rfl wTop8_fld120_1 wTop8_siz23 rfl Zz rfl) rfl ?_; refine zq (p_loadB (y := .row _ _) rfl wTop8_agg23 Zz rfl rfl rfl rfl) rfl ?_; refine zc (c_callS (q := true) rfl wTop8_isf56 (containsII_spec l (fun l => decide (l = [])) (fun _ => True) (fun _ _ => trivial)) (sa_cons (sh_row Zz rfl) (sa_cons (sh_clo Zz wTop8_isf60 (sl_nil) (fun _ => rfl) (fun _ => rfl) (fun y => jWhy1_spec y.1)) (sa_nil))) rfl) rfl (snil (f_cond rfl ?_ ?_))
          · intro hc5; (try simp only [bs] at hc5); refine f_seq (f_region ?_); refine zq (p_build rfl wTop8_plc29 wTop8_zer29 (by decide) wTop8_zch29 rfl rfl) rfl (zm2 rfl rfl rfl ?_); refine scons (r_storeS rfl wTop8_siz29 rfl rfl rfl Zz rfl Zz rfl rfl rfl rfl) (snil (f_ret ?_))
            refine ends_ret (res_eq (res2 rfl (res_tmp rfl (Sees.of rfl)) (res_cell (by rfl) rfl rfl wTop8_agg29 wTop8_siz29 rfl rfl)) ?_)
            rw [hgo, Sp.why_yes (by omega) hc5]
            rfl
          · intro hc5; (try simp only [bs] at hc5); refine f_skip (f_seq (f_region (zm1 rfl rfl rfl ?_))); refine zq (p_len rfl wTop8_isl34 Zz) rfl ?_; refine zq (p_build rfl wTop8_plc29 wTop8_zer29 (by decide) wTop8_zch29 rfl rfl) rfl (zm2 rfl rfl rfl ?_); refine scons (r_storeS rfl wTop8_siz29 rfl rfl rfl Zz rfl Zz rfl rfl rfl rfl) (snil (f_ret ?_))
            refine ends_ret (res_eq (res2 rfl (res_tmp rfl (Sees.of rfl)) (res_cell (by rfl) rfl rfl wTop8_agg29 wTop8_siz29 rfl rfl)) ?_)
            obtain rfl : i = st.length := by omega
            rw [hgo, Sp.why_no (Nat.le_refl _) hc5]
            rfl

set_option maxHeartbeats 4000000 in
theorem TopChecks_spec (raw steps : List Int) :
    Spec Go.Proofs.Tryz.prog 4 [.val (ints raw), .val (ints steps)] (D.bool true) := by
  refine spec_of' Go.Proofs.Tryz.func4 rfl Go.Proofs.Tryz.ntmps4 rfl ?_
  refine f_seq ?_
  refine f_wf (.tmp 1) rfl (fun hwf => ?_) (by simp)
  have hlen : steps.length ≤ 140737488355328 := hwf.1
  clear hwf
  have hck := Sp.cnfOf_check (l := raw) (m := 6) (n := 14) (by decide) (by decide)
  refine f_region (zm2 rfl rfl rfl (snil (f_seq (f_region (zm1 rfl rfl rfl ?_))))); refine zc (c_call rfl wTop8_isf7 ⟨_, _, rfl, Zz, rfl, ⟨_, _, rfl, Zz, rfl, ⟨_, _, rfl, Zz, rfl, rfl⟩⟩⟩ (CnfOf_spec raw 6 14 (by omega) (by omega))) rfl ?_; refine scons (r_alloc (ob := 10005) rfl wTop8_zer25 rfl rfl rfl rfl rfl rfl) ?_; refine scons (r_storeS rfl wTop8_siz25 rfl rfl rfl Zz rfl Zz rfl rfl rfl rfl) (snil (f_seq (f_region (zm5 rfl rfl rfl (snil (f_seq (f_seq (f_region (zm2 rfl rfl rfl (snil (f_block ?_)))))))))))
  refine f_loop (α := Nat × Nat) (fun (i, u) => i ≤ steps.length ∧ i ≤ 14) (fun (i, u) => [(7, iv i), (5, .ref 10005 0 0), (10005, .box 0 (.ccons (iv 6) (.ccons (.val (intss (Sp.cnfOf raw ((6 : Nat) : Int) 14))) .cnil))), (6, .row 30000 u), (30000, .arr u 54 9 120 dStp (0, []) (Sp.sksOf steps i)), (1, .val (ints steps)), (4, bv false)]) (fun (i, u) => steps.length - i) (0, 0) ?_ ?_ ?_
  · exact ⟨Nat.zero_le _, Nat.zero_le _⟩
  · exact Le.trans (GLe.le (g_adopt (ob := 30000) (k := 6) 54 9 120 dStp (0, []) rfl rfl rfl rfl)) (le_ofL ⟨rfl, rfl, rfl, rfl, rfl, rfl, rfl, trivial⟩ rfl)
  · rintro ⟨i, u⟩ ⟨hi, hin⟩
    have hi : i ≤ steps.length := hi
    have hin : i ≤ 14 := hin
    refine f_seq (f_seq (f_region (zm1 rfl rfl rfl (zm1 rfl rfl rfl ?_)))); refine zq (p_len rfl wTop8_isl22 Zz) rfl ?_; refine zq (p_lss rfl Zz Zz) rfl (zm1 rfl rfl rfl ?_); refine scons (CStep.guard rfl rfl rfl (fun hg0 => PStep.c (p_move (y := .val _) rfl Zz rfl)) rfl rfl rfl rfl rfl) ?_; refine scons (CStep.guard rfl rfl rfl (fun hg0 => PStep.c (p_lss rfl (Sees.gv' rfl hg0) Zz)) rfl rfl rfl rfl rfl) ?_; refine zq (p_and rfl Zz (fun h => Sees.gv' rfl (beq_of_eq h)) Zz) rfl (snil (f_cond rfl ?_ ?_))
    · intro hc1; (try simp only [bs] at hc1); refine f_skip (f_seq (f_block (f_seq (f_region (zm1 rfl rfl rfl (zm1 rfl rfl rfl ?_)))))); refine zq ((by first | exact p_indexN rfl wTop8_isl22 wTop8_siz3 Zz Zz (by omega) | exact p_index rfl wTop8_isl22 wTop8_siz3 Zz Zz (by omega) (by omega))) rfl ?_; refine zq (p_load rfl wTop8_agg3 Zz rfl) rfl ?_; refine zq (p_quoW rfl Zz Zz (by omega)) rfl ?_; refine zc (c_call rfl wTop8_isf16 ⟨_, _, rfl, Zz, rfl, ⟨_, _, rfl, Zz, rfl, rfl⟩⟩ (ClauseOf_spec (Sp.q64 (steps.getD i 0) 3) 6 (by omega))) rfl ?_; refine zq (p_build rfl wTop8_plc54 wTop8_zer54 (by decide) wTop8_zch54 ⟨_, _, _, rfl, rfl, rfl, Zz, ⟨_, _, _, rfl, rfl, rfl, Zz, rfl⟩⟩ rfl) rfl ?_; refine scons (r_alloc (ob := 10008) rfl wTop8_zer54 rfl rfl rfl rfl rfl rfl) ?_; refine scons (r_storeS rfl wTop8_siz54 rfl rfl rfl Zz rfl Zz rfl rfl rfl rfl) (snil (f_seq (f_seq (f_region (zm1 rfl rfl rfl (zm1 rfl rfl rfl ?_)))))); refine zq ((by first | exact p_indexN rfl wTop8_isl22 wTop8_siz3 Zz Zz (by omega) | exact p_index rfl wTop8_isl22 wTop8_siz3 Zz Zz (by omega) (by omega))) rfl ?_; refine zq (p_load rfl wTop8_agg3 Zz rfl) rfl ?_; refine zc (c_call rfl wTop8_isf8 ⟨_, _, rfl, Zz, rfl, ⟨_, _, rfl, Zz, rfl, rfl⟩⟩ (Picked_spec (steps.getD i 0) 3 (by omega))) rfl ?_; refine zq (p_eql rfl Zz Zz) rfl (snil (f_cond rfl ?_ ?_))
      · intro hc2; (try simp only [bs] at hc2); refine f_region ?_; refine zq (p_fieldRef rfl wTop8_fld54_0 wTop8_siz3 rfl Zz rfl) rfl ?_; refine scons (r_store rfl wTop8_siz3 rfl rfl rfl Zz rfl rfl Zz (one_val rfl)) (snil ?_)
        have hsl := Sp.sks_len steps i
        refine f_region (zm3 rfl rfl rfl ?_); refine zq (p_loadBS rfl wTop8_agg54 wTop8_siz54 Zz rfl rfl rfl) rfl ?_; refine zc (c_buildSlice (f := dStp) (za := (0, [])) (xs := [.tmp 40]) rfl rfl wTop8_isl34 wTop8_siz54 wTop8_zer54 rfl rfl ⟨(_, _), _, rfl, Zz, rfl, rfl, rfl⟩) rfl ?_; refine scons (r_appendR (ob := 30000) rfl wTop8_isl34 wTop8_siz54 wTop8_byt54 wTop8_zer54 rfl rfl Zz rfl Zz (by simp only [List.length_cons, List.length_nil]; omega) (by simp only [List.length_cons, List.length_nil]; omega) rfl rfl rfl rfl rfl) ?_; refine zm4 rfl rfl rfl (snil (f_nil ?_)); show AWs _ _ _ _ _; refine f_region (zm1 rfl rfl rfl ?_); refine zq (p_add rfl Zz Zz (by omega)) rfl (zm2 rfl rfl rfl (snil ?_))
        refine f_back ⟨(i + 1, u + 1), ?_, ?_, le_ofL ⟨rfl, rfl, rfl, rfl, (by rw [Sp.sks_snoc (by omega), Sp.skOf, if_pos hc2]; rfl), rfl, rfl, trivial⟩ rfl⟩
        · exact ⟨by omega, by omega⟩
        · show steps.length - (i + 1) < steps.length - i
          omega
      · intro hc2; (try simp only [bs] at hc2); refine f_skip ?_
        have hsl := Sp.sks_len steps i
        refine f_region (zm3 rfl rfl rfl ?_); refine zq (p_loadBS rfl wTop8_agg54 wTop8_siz54 Zz rfl rfl rfl) rfl ?_; refine zc (c_buildSlice (f := dStp) (za := (0, [])) (xs := [.tmp 40]) rfl rfl wTop8_isl34 wTop8_siz54 wTop8_zer54 rfl rfl ⟨(_, _), _, rfl, Zz, rfl, rfl, rfl⟩) rfl ?_; refine scons (r_appendR (ob := 30000) rfl wTop8_isl34 wTop8_siz54 wTop8_byt54 wTop8_zer54 rfl rfl Zz rfl Zz (by simp only [List.length_cons, List.length_nil]; omega) (by simp only [List.length_cons, List.length_nil]; omega) rfl rfl rfl rfl rfl) ?_; refine zm4 rfl rfl rfl (snil (f_nil ?_)); show AWs _ _ _ _ _; refine f_region (zm1 rfl rfl rfl ?_); refine zq (p_add rfl Zz Zz (by omega)) rfl (zm2 rfl rfl rfl (snil ?_))
        refine f_back ⟨(i + 1, u + 1), ?_, ?_, le_ofL ⟨rfl, rfl, rfl, rfl, (by rw [Sp.sks_snoc (by omega), Sp.skOf, if_neg hc2]; rfl), rfl, rfl, trivial⟩ rfl⟩
        · exact ⟨by omega, by omega⟩
        · show steps.length - (i + 1) < steps.length - i
          omega
    · intro hc1; (try simp only [bs] at hc1); refine f_exit ?_; show AWs _ _ _ _ _; refine f_seq ?_
      have hS := Sp.sks_ok (l := steps) (i := i) hck (by omega)
      refine f_le (GLe.le (g_freeze (k := 6) (o1 := 30000) rfl rfl rfl rfl)) ?_ (by simp)
      refine f_region ?_; refine zq (p_loadBS rfl wTop8_agg25 wTop8_siz25 Zz rfl rfl rfl) rfl (zm1 rfl rfl rfl ?_); refine zc (c_call rfl wTop8_isf17 ⟨_, _, rfl, Zz, rfl, ⟨_, _, rfl, Zz, rfl, rfl⟩⟩ (whyD_spec 6 (Sp.cnfOf raw ((6 : Nat) : Int) 14) (Sp.sksOf steps i) hS (by omega))) rfl (zm1 rfl rfl rfl ?_); refine zq (p_extract rfl Zz rfl) rfl ?_; refine zq (p_extract rfl Zz rfl) rfl ?_; refine scons (r_alloc (ob := 10010) rfl wTop8_zer29 rfl rfl rfl rfl rfl rfl) (zm2 rfl rfl rfl ?_); refine scons (r_storeS rfl wTop8_siz29 rfl rfl rfl Zz rfl Zz rfl rfl rfl rfl) (snil (f_seq (f_region ?_))); refine zq (p_loadBS rfl wTop8_agg25 wTop8_siz25 Zz rfl rfl rfl) rfl ?_; refine zc (c_call rfl wTop8_isf19 ⟨_, _, rfl, Zz, rfl, rfl⟩ (free_spec 6 (Sp.cnfOf raw ((6 : Nat) : Int) 14) (by omega))) rfl (zm1 rfl rfl rfl ?_); refine zc (c_call rfl wTop8_isf18 ⟨_, _, rfl, Zz, rfl, ⟨_, _, rfl, Zz, rfl, rfl⟩⟩ (jWhyD_spec 6 (Sp.cnfOf raw ((6 : Nat) : Int) 14) (Sp.sksOf steps i) hS (by omega))) rfl (zm1 rfl rfl rfl ?_); refine zq (p_extract rfl Zz rfl) rfl ?_; refine zq (p_extract rfl Zz rfl) rfl ?_; refine scons (r_alloc (ob := 10012) rfl wTop8_zer29 rfl rfl rfl rfl rfl rfl) (zm2 rfl rfl rfl ?_); refine scons (r_storeS rfl wTop8_siz29 rfl rfl rfl Zz rfl Zz rfl rfl rfl rfl) (snil (f_seq (f_region ?_))); refine zq (p_fieldRef rfl wTop8_fld29_0 wTop8_siz3 rfl Zz rfl) rfl ?_; refine zq (p_loadB (y := .val _) rfl wTop8_agg3 Zz rfl rfl rfl rfl) rfl ?_; refine zq (p_eql rfl Zz Zz) rfl (zm1 rfl rfl rfl ?_); refine scons (CStep.guard rfl rfl rfl (fun hg0 => PStep.c (p_fieldRef rfl wTop8_fld29_0 wTop8_siz3 rfl Zz rfl)) rfl rfl rfl rfl rfl) ?_; refine scons (CStep.guard rfl rfl rfl (fun hg0 => PStep.c (p_loadB (y := .val _) rfl wTop8_agg3 (Sees.gv' rfl hg0) rfl rfl rfl rfl)) rfl rfl rfl rfl rfl) ?_; refine scons (CStep.guard rfl rfl rfl (fun hg0 => PStep.c (p_eql rfl (Sees.gv' rfl hg0) Zz)) rfl rfl rfl rfl rfl) ?_; refine zq (p_and rfl Zz (fun h => Sees.gv' rfl (beq_of_eq h)) Zz) rfl (zm1 rfl rfl rfl ?_); refine scons (CStep.guard rfl rfl rfl (fun hg0 => c_call rfl wTop8_isf10 rfl (clausesSure_spec)) rfl rfl rfl rfl rfl) ?_; refine zq (p_and rfl Zz (fun h => Sees.gv' rfl (beq_of_eq h)) Zz) rfl (zm1 rfl rfl rfl ?_); refine scons (CStep.guard rfl rfl rfl (fun hg0 => PStep.c (p_move (y := .val _) rfl Zz rfl)) rfl rfl rfl rfl rfl) ?_; refine scons (CStep.guard rfl rfl rfl (fun hg0 => PStep.c (p_move (y := .val _) rfl Zz rfl)) rfl rfl rfl rfl rfl) ?_; refine scons (CStep.guard rfl rfl rfl (fun hg0 => PStep.c (p_eql rfl (Sees.gv' rfl hg0) (Sees.gv' rfl hg0))) rfl rfl rfl rfl rfl) ?_; refine zq (p_and rfl Zz (fun h => Sees.gv' rfl (beq_of_eq h)) Zz) rfl (zm2 rfl rfl rfl (snil (f_ret ?_)))
      refine ends_ret (res_eq (res1 rfl (res_tmp rfl (Sees.of rfl))) ?_)
      simp

end Go.Um
