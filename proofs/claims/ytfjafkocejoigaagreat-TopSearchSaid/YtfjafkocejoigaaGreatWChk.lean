/- Walks of Go functions of this seat, each by its contract. No condition beyond what each theorem says. -/
import Derived.Test.YtfjafkocejoigaaGreatWCd3
import Derived.Test.YtfjafkocejoigaaGreatSq8
import Derived.Test.YtfjafkocejoigaaGreatWLst
import Derived.Test.YtfjafkocejoigaaGreatWSat
import Derived.Test.YtfjafkocejoigaaGreatProg
import Derived.KernelRfl
import Derived.Test.YtfjafkocejoigaaGreatQ
set_option maxRecDepth 4000
namespace Go.Um
open Go Go.RowKit

theorem wChk_agg22 : IsAgg Go.Proofs.Tryz.prog 22 false := by unfold IsAgg; kernel_rfl
theorem wChk_agg23 : IsAgg Go.Proofs.Tryz.prog 23 false := by unfold IsAgg; kernel_rfl
theorem wChk_agg25 : IsAgg Go.Proofs.Tryz.prog 25 true := by unfold IsAgg; kernel_rfl
theorem wChk_agg29 : IsAgg Go.Proofs.Tryz.prog 29 true := by unfold IsAgg; kernel_rfl
theorem wChk_agg3 : IsAgg Go.Proofs.Tryz.prog 3 false := by unfold IsAgg; kernel_rfl
theorem wChk_agg54 : IsAgg Go.Proofs.Tryz.prog 54 true := by unfold IsAgg; kernel_rfl
theorem wChk_byt22 : Bytes Go.Proofs.Tryz.prog 22 24 := by unfold Bytes; kernel_rfl
theorem wChk_fld25_0 : IsField Go.Proofs.Tryz.prog 25 0 0 3 := by unfold IsField; kernel_rfl
theorem wChk_fld25_1 : IsField Go.Proofs.Tryz.prog 25 1 1 23 := by unfold IsField; kernel_rfl
theorem wChk_fld29_0 : IsField Go.Proofs.Tryz.prog 29 0 0 3 := by unfold IsField; kernel_rfl
theorem wChk_fld54_0 : IsField Go.Proofs.Tryz.prog 54 0 0 3 := by unfold IsField; kernel_rfl
theorem wChk_fld54_1 : IsField Go.Proofs.Tryz.prog 54 1 1 22 := by unfold IsField; kernel_rfl
theorem wChk_isf17 : IsFn Go.Proofs.Tryz.prog 17 := by unfold IsFn; kernel_rfl
theorem wChk_isf48 : IsFn Go.Proofs.Tryz.prog 48 := by unfold IsFn; kernel_rfl
theorem wChk_isf49 : IsFn Go.Proofs.Tryz.prog 49 := by unfold IsFn; kernel_rfl
theorem wChk_isf50 : IsFn Go.Proofs.Tryz.prog 50 := by unfold IsFn; kernel_rfl
theorem wChk_isf56 : IsFn Go.Proofs.Tryz.prog 56 := by unfold IsFn; kernel_rfl
theorem wChk_isf57 : IsFn Go.Proofs.Tryz.prog 57 := by unfold IsFn; kernel_rfl
theorem wChk_isf67 : IsFn Go.Proofs.Tryz.prog 67 := by unfold IsFn; kernel_rfl
theorem wChk_isf89 : IsFn Go.Proofs.Tryz.prog 89 := by unfold IsFn; kernel_rfl
theorem wChk_isl22 : IsSlice Go.Proofs.Tryz.prog 22 3 := by unfold IsSlice; kernel_rfl
theorem wChk_isl23 : IsSlice Go.Proofs.Tryz.prog 23 22 := by unfold IsSlice; kernel_rfl
theorem wChk_isl34 : IsSlice Go.Proofs.Tryz.prog 34 54 := by unfold IsSlice; kernel_rfl
theorem wChk_plc29 : Places Go.Proofs.Tryz.prog 29 [(0, 1), (1, 1)] := by unfold Places; kernel_rfl
theorem wChk_siz22 : Size Go.Proofs.Tryz.prog 22 1 := by unfold Size; kernel_rfl
theorem wChk_siz23 : Size Go.Proofs.Tryz.prog 23 1 := by unfold Size; kernel_rfl
theorem wChk_siz25 : Size Go.Proofs.Tryz.prog 25 2 := by unfold Size; kernel_rfl
theorem wChk_siz29 : Size Go.Proofs.Tryz.prog 29 2 := by unfold Size; kernel_rfl
theorem wChk_siz3 : Size Go.Proofs.Tryz.prog 3 1 := by unfold Size; kernel_rfl
theorem wChk_siz54 : Size Go.Proofs.Tryz.prog 54 9 := by unfold Size; kernel_rfl
def wChk_z29 : D := .cons (.int .i64 0) (.cons (.int .i64 0) (.nil))
theorem wChk_zch29 : ∀ (ok : Nat → Prop) (w : World), R Go.Proofs.Tryz.prog wChk_z29 ok w (Value.cells (.agg #[(.int .i64 0), (.int .i64 0)])).toList := fun _ _ => z_int (z_int (z_nil))
theorem wChk_zer22 : Zero Go.Proofs.Tryz.prog 22 (.slice none 0 0) := by unfold Zero; kernel_rfl
theorem wChk_zer29 : Zero Go.Proofs.Tryz.prog 29 (.agg #[(.int .i64 0), (.int .i64 0)]) := by unfold Zero; kernel_rfl
theorem wChk_zer54 : Zero Go.Proofs.Tryz.prog 54 (.agg #[(.int .i64 0), (.slice none 0 0), (.slice none 0 0), (.int .i64 0), (.int .i64 0), (.int .i64 0), (.slice none 0 0), (.int .i64 0), (.int .i64 0)]) := by unfold Zero; kernel_rfl

theorem cloneII_spec (a : List (List Int)) (hla : a.length ≤ 1000000) :
    SpecN Go.Proofs.Tryz.prog 49 [.val (intss a)] 22 1 24 ints a := by
  refine specN_of' Go.Proofs.Tryz.func49 rfl Go.Proofs.Tryz.ntmps49 rfl ?_
  refine f_seq ?_
  refine f_wf (.tmp 0) rfl (fun hwf => ?_) (by simp)
  have hlen : a.length ≤ 140737488355328 := hwf.1
  clear hwf
  refine f_sl 0 rfl rfl (fun b hb => ?_) (by simp)
  refine f_region (zm5 rfl rfl rfl (snil (f_seq (f_seq (f_region (zm1 rfl rfl rfl ?_)))))); refine zq (p_eqlNil rfl wChk_isl23 rfl rfl) rfl (snil (f_cond rfl ?_ ?_))
  · intro hc1; (try simp only [bs] at hc1); refine f_seq (f_region (zm5 rfl rfl rfl (snil (f_ret ?_))))
    refine endsN_ret (resN_eq (resN_emp rfl rfl rfl rfl) ?_)
    exact (hb hc1).symm
  · intro hc1; (try simp only [bs] at hc1); refine f_skip (f_seq (f_region ?_)); refine scons (r_buildRow (f := ints) (za := []) (xs := []) (by_ := 24) (ob := 10005) rfl rfl wChk_isl23 wChk_siz22 wChk_zer22 rfl rfl (by decide) rfl rfl rfl rfl rfl rfl) (zm1 rfl rfl rfl ?_); refine scons (r_appendR (ob := 10005) rfl wChk_isl23 wChk_siz22 wChk_byt22 wChk_zer22 rfl rfl Zz rfl (Sees.sl rfl) (by simp only [List.length_cons, List.length_nil, List.length_append]; omega) (by simp only [List.length_cons, List.length_nil, List.length_append]; omega) rfl rfl rfl rfl rfl) ?_; refine zm4 rfl rfl rfl (snil (f_ret ?_))
    refine endsN_ret (resN_eq (resN_row rfl rfl rfl rfl) ?_)
    rfl

theorem checked_spec (n : Int) (ls st : List (List Int)) (h : Sp.Taken n ls st) :
    Spec Go.Proofs.Tryz.prog 48 [.val (cnf n ls), .val (stps (lrn st))] (fault 0 0) := by
  refine spec_of' Go.Proofs.Tryz.func48 rfl Go.Proofs.Tryz.ntmps48 rfl ?_
  refine f_seq ?_
  have hsl := Sp.lrn_len st
  have hll := h.ll
  have hnn := (Sp.check_ok h.ck).1
  have hz := Sp.check_zero h.ck
  refine f_region ?_; refine scons (r_box (ob := 10002) rfl Zz rfl rfl rfl rfl rfl rfl) ?_; refine scons (r_alloc (ob := 10004) rfl wChk_zer29 rfl rfl rfl rfl rfl rfl) (snil (f_seq (f_seq (f_region ?_)))); refine zq (p_loadBS rfl wChk_agg25 wChk_siz25 Zz rfl rfl rfl) rfl ?_; refine zc (c_call rfl wChk_isf67 ⟨_, _, rfl, Zz, rfl, rfl⟩ (ccheck_spec n ls)) rfl ?_; refine scons (r_alloc (ob := 10005) rfl wChk_zer29 rfl rfl rfl rfl rfl rfl) ?_; refine scons (r_storeS rfl wChk_siz29 rfl rfl rfl Zz rfl Zz rfl rfl rfl rfl) (snil (f_seq (f_region ?_))); refine zq (p_fieldRef rfl wChk_fld29_0 wChk_siz3 rfl Zz rfl) rfl ?_; refine zq (p_loadB (y := .val _) rfl wChk_agg3 Zz rfl rfl rfl rfl) rfl ?_; refine zq (p_neq rfl Zz Zz) rfl (snil (f_cond rfl ?_ ?_))
  · intro hc1; (try simp only [bs] at hc1)
    exact absurd h.ck hc1
  · intro hc1; (try simp only [bs] at hc1); refine f_skip (f_seq (f_seq (f_region (zm1 rfl rfl rfl ?_)))); refine zq (p_len rfl wChk_isl34 Zz) rfl ?_; refine zq (p_gtr rfl Zz Zz) rfl (snil (f_cond rfl ?_ ?_))
    · intro hc2; (try simp only [bs] at hc2)
      omega
    · intro hc2; (try simp only [bs] at hc2); refine f_skip (f_seq (f_seq (f_region (zm1 rfl rfl rfl ?_)))); refine zq (p_len rfl wChk_isl34 Zz) rfl (zm1 rfl rfl rfl (snil (f_block ?_)))
      refine f_loop (α := Nat) (fun i => i ≤ st.length) (fun i => [(22, iv i), (2, .ref 10002 0 0), (4, .ref 10004 0 0), (20, .val (stps (lrn st))), (21, iv (lrn st).length), (10002, .box 0 (.ccons (iv n) (.ccons (.val (intss ls)) .cnil))), (10004, .box 0 (.ccons (iv 0) (.ccons (iv 0) .cnil)))]) (fun i => st.length - i) 0 ?_ ?_ ?_
      · exact Nat.zero_le _
      · exact le_ofL ⟨rfl, rfl, rfl, rfl, rfl, rfl, rfl, trivial⟩ rfl
      · rintro i hi
        refine f_seq (f_region ?_); refine zq (p_lss rfl Zz Zz) rfl (snil (f_seq (f_cond rfl ?_ ?_)))
        · intro hc3; (try simp only [bs] at hc3); refine f_skip (f_seq (f_block (f_seq (f_region (zm1 rfl rfl rfl ?_))))); refine zq ((by first | exact p_indexN rfl wChk_isl34 wChk_siz54 Zz Zz (by omega) | exact p_index rfl wChk_isl34 wChk_siz54 Zz Zz (by omega) (by omega))) rfl ?_; refine zq (p_loadS rfl wChk_agg54 wChk_siz54 Zz ⟨rfl, fun h => R_len rfl h⟩) rfl ?_; refine scons (r_alloc (ob := 10007) rfl wChk_zer54 rfl rfl rfl rfl rfl rfl) (zm2 rfl rfl rfl ?_); refine scons (r_storeS rfl wChk_siz54 rfl rfl rfl Zz rfl Zz rfl rfl rfl rfl) (snil (f_seq (f_seq ?_)))
          rw [Sp.lrn_at (by omega)]
          have hwr := h.wr _ (Sp.getD_mem st i [] (by omega))
          refine f_region ?_; refine zq (p_fieldRef rfl wChk_fld54_0 wChk_siz3 rfl Zz rfl) rfl ?_; refine zq (p_loadB (y := .val _) rfl wChk_agg3 Zz rfl rfl rfl rfl) rfl ?_; refine zq (p_neq rfl Zz Zz) rfl (zm1 rfl rfl rfl ?_); refine scons (CStep.guard rfl rfl rfl (fun hg0 => PStep.c (p_fieldRef rfl wChk_fld54_0 wChk_siz3 rfl Zz rfl)) rfl rfl rfl rfl rfl) ?_; refine scons (CStep.guard rfl rfl rfl (fun hg0 => PStep.c (p_loadB (y := .val _) rfl wChk_agg3 (Sees.gv' rfl hg0) rfl rfl rfl rfl)) rfl rfl rfl rfl rfl) ?_; refine scons (CStep.guard rfl rfl rfl (fun hg0 => PStep.c (p_neq rfl (Sees.gv' rfl hg0) Zz)) rfl rfl rfl rfl rfl) ?_; refine zq (p_and rfl Zz (fun h => Sees.gv' rfl (beq_of_eq h)) Zz) rfl (snil (f_cond rfl ?_ ?_))
          · intro hc4; (try simp only [bs] at hc4)
            exact absurd trivial hc4.1
          · intro hc4; (try simp only [bs] at hc4); refine f_skip (f_seq (f_region ?_)); refine zq (p_fieldRef rfl wChk_fld54_1 wChk_siz22 rfl Zz rfl) rfl ?_; refine zq (p_loadB (y := .val _) rfl wChk_agg22 Zz rfl rfl rfl rfl) rfl ?_; refine zq (p_fieldRef rfl wChk_fld25_0 wChk_siz3 rfl Zz rfl) rfl ?_; refine zq (p_loadB (y := .val _) rfl wChk_agg3 Zz rfl rfl rfl rfl) rfl ?_; refine zc (c_call rfl wChk_isf89 ⟨_, _, rfl, Zz, rfl, ⟨_, _, rfl, Zz, rfl, rfl⟩⟩ (bad_spec (st.getD i []) n (by omega))) rfl (zm1 rfl rfl rfl ?_); refine zq (p_extract rfl Zz rfl) rfl ?_; refine zq (p_extract rfl Zz rfl) rfl (zm2 rfl rfl rfl (zm2 rfl rfl rfl (snil (f_seq (f_region (zm1 rfl rfl rfl ?_)))))); refine zq (p_neq rfl Zz Zz) rfl (snil (f_cond rfl ?_ ?_))
            · intro hc5; (try simp only [bs] at hc5)
              exact absurd hwr.1 hc5
            · intro hc5; (try simp only [bs] at hc5); refine f_skip (f_nil ?_); show AWs _ _ _ _ _; refine f_region ?_; refine zq (p_add rfl Zz Zz (by omega)) rfl (zm1 rfl rfl rfl (snil ?_))
              refine f_back ⟨i + 1, ?_, ?_, le_ofL ⟨rfl, rfl, rfl, rfl, rfl, rfl, rfl, trivial⟩ rfl⟩
              · omega
              · omega
        · intro hc3; (try simp only [bs] at hc3); refine f_exit ?_; show AWs _ _ _ _ _; refine f_seq (f_region ?_); refine zq (p_build rfl wChk_plc29 wChk_zer29 (by decide) wChk_zch29 rfl rfl) rfl ?_; refine scons (r_storeS rfl wChk_siz29 rfl rfl rfl Zz rfl Zz rfl rfl rfl rfl) (snil (f_ret ?_))
          refine ends_ret (res_eq (res1 rfl (res_cell (by rfl) rfl rfl wChk_agg29 wChk_siz29 rfl rfl)) ?_)
          rfl

theorem why2_spec (l : List Int) :
    Spec Go.Proofs.Tryz.prog 57 [.val (ints l)] (D.bool (decide (l = []))) := by
  refine spec_of' Go.Proofs.Tryz.func57 rfl Go.Proofs.Tryz.ntmps57 rfl ?_
  refine f_seq (f_region (zm2 rfl rfl rfl (snil (f_seq (f_region (zm1 rfl rfl rfl ?_)))))); refine zq (p_len rfl wChk_isl22 Zz) rfl ?_; refine zq (p_eql rfl Zz Zz) rfl (zm2 rfl rfl rfl (snil (f_ret ?_)))
  refine ends_ret (res_eq (res1 rfl (res_tmp rfl (Sees.of rfl))) ?_)
  simp

set_option maxHeartbeats 1000000 in
theorem Why_spec (n : Int) (ls st : List (List Int)) (h : Sp.Taken n ls st) (h0 : [] ∈ ls ++ st) :
    Spec Go.Proofs.Tryz.prog 17 [.val (cnf n ls), .val (stps (lrn st))] (two (di (-1)) (fault 0 0)) := by
  refine spec_of' Go.Proofs.Tryz.func17 rfl Go.Proofs.Tryz.ntmps17 rfl ?_
  refine f_seq ?_
  have hsl := Sp.lrn_len st
  have hll := h.ll
  have hnn := (Sp.check_ok h.ck).1
  have hz := Sp.check_zero h.ck
  refine f_region ?_; refine scons (r_box (ob := 10002) rfl Zz rfl rfl rfl rfl rfl rfl) (zm2 rfl rfl rfl ?_); refine scons (r_alloc (ob := 10005) rfl wChk_zer29 rfl rfl rfl rfl rfl rfl) (snil (f_seq (f_seq (f_region ?_)))); refine zq (p_loadBS rfl wChk_agg25 wChk_siz25 Zz rfl rfl rfl) rfl (zm1 rfl rfl rfl ?_); refine zc (c_call rfl wChk_isf48 ⟨_, _, rfl, Zz, rfl, ⟨_, _, rfl, Zz, rfl, rfl⟩⟩ (checked_spec n ls st h)) rfl ?_; refine scons (r_alloc (ob := 10006) rfl wChk_zer29 rfl rfl rfl rfl rfl rfl) ?_; refine scons (r_storeS rfl wChk_siz29 rfl rfl rfl Zz rfl Zz rfl rfl rfl rfl) (snil (f_seq (f_region ?_))); refine zq (p_fieldRef rfl wChk_fld29_0 wChk_siz3 rfl Zz rfl) rfl ?_; refine zq (p_loadB (y := .val _) rfl wChk_agg3 Zz rfl rfl rfl rfl) rfl ?_; refine zq (p_neq rfl Zz Zz) rfl (snil (f_cond rfl ?_ ?_))
  · intro hc1; (try simp only [bs] at hc1)
    exact absurd trivial hc1
  · intro hc1; (try simp only [bs] at hc1); refine f_skip (f_seq (f_region ?_)); refine zq (p_fieldRef rfl wChk_fld25_1 wChk_siz23 rfl Zz rfl) rfl ?_; refine zq (p_loadB (y := .val _) rfl wChk_agg23 Zz rfl rfl rfl rfl) rfl ?_; refine scons (r_callS (q := false) (ob := 30000) [] rfl wChk_isf49 (cloneII_spec ls (by have := (Sp.check_ok h.ck).2.1; omega)) (sa_cons (sh_of Zz rfl) (sa_nil)) (.inl rfl) rfl rfl rfl rfl rfl) ?_; refine zm4 rfl rfl rfl (snil (f_seq (f_seq (f_region (zm1 rfl rfl rfl ?_))))); refine zq (p_len rfl wChk_isl34 Zz) rfl (zm1 rfl rfl rfl (snil (f_block ?_)))
    refine f_loop (α := Nat × Nat) (fun (i, u) => i ≤ st.length) (fun (i, u) => [(24, iv i), (7, .row 30000 u), (30000, .arr u 22 1 24 ints [] (ls ++ st.take i)), (1, .val (stps (lrn st))), (5, .ref 10005 0 0), (22, .val (stps (lrn st))), (23, iv (lrn st).length), (10005, .box 0 (.ccons (iv 0) (.ccons (iv 0) .cnil)))]) (fun (i, u) => st.length - i) (0, 0) ?_ ?_ ?_
    · exact Nat.zero_le _
    · exact le_ofL ⟨rfl, rfl, (by show _ = AV.arr _ _ _ _ _ _ (ls ++ []); rw [List.append_nil]; rfl), rfl, rfl, rfl, rfl, rfl, trivial⟩ rfl
    · rintro ⟨i, u⟩ hi
      have hi : i ≤ st.length := hi
      refine f_seq (f_region ?_); refine zq (p_lss rfl Zz Zz) rfl (snil (f_seq (f_cond rfl ?_ ?_)))
      · intro hc2; (try simp only [bs] at hc2); refine f_skip (f_seq (f_block (f_seq (f_region (zm1 rfl rfl rfl ?_))))); refine zq ((by first | exact p_indexN rfl wChk_isl34 wChk_siz54 Zz Zz (by omega) | exact p_index rfl wChk_isl34 wChk_siz54 Zz Zz (by omega) (by omega))) rfl ?_; refine zq (p_loadS rfl wChk_agg54 wChk_siz54 Zz ⟨rfl, fun h => R_len rfl h⟩) rfl ?_; refine scons (r_alloc (ob := 10009) rfl wChk_zer54 rfl rfl rfl rfl rfl rfl) (zm2 rfl rfl rfl ?_); refine scons (r_storeS rfl wChk_siz54 rfl rfl rfl Zz rfl Zz rfl rfl rfl rfl) (snil (f_seq (f_seq ?_)))
        rw [Sp.lrn_at (by omega)]
        have hwr := h.wr _ (Sp.getD_mem st i [] (by omega))
        obtain ⟨hr1, hr2, hr3⟩ := h.room i
        have hfa := Sp.chain_falls h.nz.1 h.nz.2 h.ch (i := i) (by omega)
        refine f_region ?_; refine zq (p_fieldRef rfl wChk_fld54_0 wChk_siz3 rfl Zz rfl) rfl ?_; refine zq (p_loadB (y := .val _) rfl wChk_agg3 Zz rfl rfl rfl rfl) rfl ?_; refine zq (p_eql rfl Zz Zz) rfl (snil (f_cond rfl ?_ ?_))
        · intro hc3; (try simp only [bs] at hc3); refine f_seq (f_seq (f_region (zm3 rfl rfl rfl ?_))); refine zq (p_fieldRef rfl wChk_fld54_1 wChk_siz22 rfl Zz rfl) rfl ?_; refine zq (p_loadB (y := .val _) rfl wChk_agg22 Zz rfl rfl rfl rfl) rfl ?_; refine zc (c_callS (q := true) rfl wChk_isf50 (Falls_spec (ls ++ st.take i) (st.getD i []) hr1 (fun x hx => by have := Sp.wrong_ok hwr.1 x hx; omega) (by omega) hr2 (by omega)) (sa_cons (sh_row Zz rfl) (sa_cons (sh_of Zz rfl) (sa_nil))) rfl) rfl ?_; refine zq (p_not rfl Zz) rfl (snil (f_cond rfl ?_ ?_))
          · intro hc4; (try simp only [bs] at hc4)
            have hfb := hfa (List.replicate ((st.getD i []).map fun x => -x).length (-1))
            omega
          · intro hc4; (try simp only [bs] at hc4); refine f_skip (f_seq (f_region (zm3 rfl rfl rfl ?_))); refine zq (p_fieldRef rfl wChk_fld54_1 wChk_siz22 rfl Zz rfl) rfl ?_; refine zq (p_loadB (y := .val _) rfl wChk_agg22 Zz rfl rfl rfl rfl) rfl ?_; refine zc (c_buildSlice (f := ints) (za := []) (xs := [.tmp 41]) rfl rfl wChk_isl23 wChk_siz22 wChk_zer22 rfl rfl ⟨_, _, rfl, Zz, rfl, rfl, rfl⟩) rfl ?_; refine scons (r_appendR (ob := 30000) rfl wChk_isl23 wChk_siz22 wChk_byt22 wChk_zer22 rfl rfl Zz rfl Zz (by simp only [List.length_append, List.length_cons, List.length_nil]; rw [List.length_append] at hr3; omega) (by simp only [List.length_append, List.length_cons, List.length_nil]; rw [List.length_append] at hr3; omega) rfl rfl rfl rfl rfl) ?_; refine zm4 rfl rfl rfl (snil (f_exit ?_)); show AWs _ _ _ _ _; refine f_region ?_; refine zq (p_add rfl Zz Zz (by omega)) rfl (zm1 rfl rfl rfl (snil ?_))
            refine f_back ⟨(i + 1, u + 1), ?_, ?_, le_ofL ⟨rfl, rfl, (by rw [Sp.take_getD st i [] (by omega), ← List.append_assoc]; rfl), rfl, rfl, rfl, rfl, rfl, trivial⟩ rfl⟩
            · show i + 1 ≤ _
              omega
            · show _ - (i + 1) < _ - i
              omega
        · intro hc3; (try simp only [bs] at hc3)
          exact absurd (by trivial) hc3
      · intro hc2; (try simp only [bs] at hc2); refine f_exit ?_; show AWs _ _ _ _ _; refine f_seq (f_seq ?_)
        obtain rfl : i = st.length := by omega
        refine f_region (zm3 rfl rfl rfl ?_); refine zc (c_callS (q := true) rfl wChk_isf56 (containsII_spec (ls ++ st.take st.length) (fun l => decide (l = [])) (fun _ => True) (fun _ _ => trivial)) (sa_cons (sh_row Zz rfl) (sa_cons (sh_clo Zz wChk_isf57 (sl_nil) (fun _ => rfl) (fun _ => rfl) (fun y => why2_spec y.1)) (sa_nil))) rfl) rfl (snil (f_cond rfl ?_ ?_))
        · intro hc5; (try simp only [bs] at hc5); refine f_seq (f_region ?_); refine zq (p_build rfl wChk_plc29 wChk_zer29 (by decide) wChk_zch29 rfl rfl) rfl (zm2 rfl rfl rfl ?_); refine scons (r_storeS rfl wChk_siz29 rfl rfl rfl Zz rfl Zz rfl rfl rfl rfl) (snil (f_ret ?_))
          refine ends_ret (res_eq (res2 rfl (res_tmp rfl (Sees.of rfl)) (res_cell (by rfl) rfl rfl wChk_agg29 wChk_siz29 rfl rfl)) ?_)
          rfl
        · intro hc5; (try simp only [bs] at hc5)
          exfalso
          rw [List.take_length] at hc5
          exact absurd (List.any_eq_false.1 hc5 [] h0) (by decide)

theorem ckTake_spec (n : Int) (ls st : List (List Int)) (h : Sp.Taken n ls st) (h0 : [] ∈ ls ++ st) :
    Spec Go.Proofs.Tryz.prog 27 [.val (cnf n ls), .val (stps (lrn st))] (two (D.bool true) (fault 0 0)) := by
  refine spec_of' Go.Proofs.Tryz.func27 rfl Go.Proofs.Tryz.ntmps27 rfl ?_
  refine f_seq (f_region ?_); refine scons (r_box (ob := 10002) rfl Zz rfl rfl rfl rfl rfl rfl) (zm2 rfl rfl rfl ?_); refine scons (r_alloc (ob := 10005) rfl wChk_zer29 rfl rfl rfl rfl rfl rfl) (snil (f_seq (f_region ?_))); refine zq (p_loadBS rfl wChk_agg25 wChk_siz25 Zz rfl rfl rfl) rfl (zm1 rfl rfl rfl ?_); refine zc (c_call rfl wChk_isf17 ⟨_, _, rfl, Zz, rfl, ⟨_, _, rfl, Zz, rfl, rfl⟩⟩ (Why_spec n ls st h h0)) rfl (zm1 rfl rfl rfl ?_); refine zq (p_extract rfl Zz rfl) rfl ?_; refine zq (p_extract rfl Zz rfl) rfl ?_; refine scons (r_alloc (ob := 10007) rfl wChk_zer29 rfl rfl rfl rfl rfl rfl) (zm2 rfl rfl rfl ?_); refine scons (r_storeS rfl wChk_siz29 rfl rfl rfl Zz rfl Zz rfl rfl rfl rfl) (snil (f_seq (f_seq (f_region ?_)))); refine zq (p_fieldRef rfl wChk_fld29_0 wChk_siz3 rfl Zz rfl) rfl ?_; refine zq (p_loadB (y := .val _) rfl wChk_agg3 Zz rfl rfl rfl rfl) rfl ?_; refine zq (p_neq rfl Zz Zz) rfl (snil (f_cond rfl ?_ ?_))
  · intro hc1; (try simp only [bs] at hc1)
    exact absurd trivial hc1
  · intro hc1; (try simp only [bs] at hc1); refine f_skip (f_seq (f_region (zm1 rfl rfl rfl ?_))); refine zq (p_eql rfl Zz Zz) rfl ?_; refine zq (p_build rfl wChk_plc29 wChk_zer29 (by decide) wChk_zch29 rfl rfl) rfl (zm2 rfl rfl rfl ?_); refine scons (r_storeS rfl wChk_siz29 rfl rfl rfl Zz rfl Zz rfl rfl rfl rfl) (snil (f_ret ?_))
    refine ends_ret (res_eq (res2 rfl (res_tmp rfl (Sees.of rfl)) (res_cell (by rfl) rfl rfl wChk_agg29 wChk_siz29 rfl rfl)) ?_)
    rfl

end Go.Um
