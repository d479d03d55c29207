/- Walks of Go functions of this seat, each by its contract. No condition beyond what each theorem says. -/
import Derived.Test.YtfjafkocejoigaaGreatPD
import Derived.Test.YtfjafkocejoigaaGreatLayG
import Derived.Test.YtfjafkocejoigaaGreatWOrd
import Derived.Test.YtfjafkocejoigaaGreatWLst
import Derived.Test.YtfjafkocejoigaaGreatBD
import Derived.Test.YtfjafkocejoigaaGreatProg
import Derived.KernelRfl
import Derived.Test.YtfjafkocejoigaaGreatQ
set_option maxRecDepth 4000
namespace Go.Um
open Go Go.RowKit

theorem wBet2_agg138 : IsAgg Go.Proofs.Tryz.prog 138 true := by unfold IsAgg; kernel_rfl
theorem wBet2_agg22 : IsAgg Go.Proofs.Tryz.prog 22 false := by unfold IsAgg; kernel_rfl
theorem wBet2_agg23 : IsAgg Go.Proofs.Tryz.prog 23 false := by unfold IsAgg; kernel_rfl
theorem wBet2_agg25 : IsAgg Go.Proofs.Tryz.prog 25 true := by unfold IsAgg; kernel_rfl
theorem wBet2_agg29 : IsAgg Go.Proofs.Tryz.prog 29 true := by unfold IsAgg; kernel_rfl
theorem wBet2_agg3 : IsAgg Go.Proofs.Tryz.prog 3 false := by unfold IsAgg; kernel_rfl
theorem wBet2_byt22 : Bytes Go.Proofs.Tryz.prog 22 24 := by unfold Bytes; kernel_rfl
theorem wBet2_byt3 : Bytes Go.Proofs.Tryz.prog 3 8 := by unfold Bytes; kernel_rfl
theorem wBet2_fld138_0 : IsField Go.Proofs.Tryz.prog 138 0 0 3 := by unfold IsField; kernel_rfl
theorem wBet2_fld138_1 : IsField Go.Proofs.Tryz.prog 138 1 1 3 := by unfold IsField; kernel_rfl
theorem wBet2_fld138_2 : IsField Go.Proofs.Tryz.prog 138 2 2 3 := by unfold IsField; kernel_rfl
theorem wBet2_fld25_0 : IsField Go.Proofs.Tryz.prog 25 0 0 3 := by unfold IsField; kernel_rfl
theorem wBet2_fld25_1 : IsField Go.Proofs.Tryz.prog 25 1 1 23 := by unfold IsField; kernel_rfl
theorem wBet2_fld29_0 : IsField Go.Proofs.Tryz.prog 29 0 0 3 := by unfold IsField; kernel_rfl
theorem wBet2_isf102 : IsFn Go.Proofs.Tryz.prog 102 := by unfold IsFn; kernel_rfl
theorem wBet2_isf111 : IsFn Go.Proofs.Tryz.prog 111 := by unfold IsFn; kernel_rfl
theorem wBet2_isf142 : IsFn Go.Proofs.Tryz.prog 142 := by unfold IsFn; kernel_rfl
theorem wBet2_isf177 : IsFn Go.Proofs.Tryz.prog 177 := by unfold IsFn; kernel_rfl
theorem wBet2_isf43 : IsFn Go.Proofs.Tryz.prog 43 := by unfold IsFn; kernel_rfl
theorem wBet2_isf49 : IsFn Go.Proofs.Tryz.prog 49 := by unfold IsFn; kernel_rfl
theorem wBet2_isf51 : IsFn Go.Proofs.Tryz.prog 51 := by unfold IsFn; kernel_rfl
theorem wBet2_isf67 : IsFn Go.Proofs.Tryz.prog 67 := by unfold IsFn; kernel_rfl
theorem wBet2_isf69 : IsFn Go.Proofs.Tryz.prog 69 := by unfold IsFn; kernel_rfl
theorem wBet2_isf81 : IsFn Go.Proofs.Tryz.prog 81 := by unfold IsFn; kernel_rfl
theorem wBet2_isl22 : IsSlice Go.Proofs.Tryz.prog 22 3 := by unfold IsSlice; kernel_rfl
theorem wBet2_isl23 : IsSlice Go.Proofs.Tryz.prog 23 22 := by unfold IsSlice; kernel_rfl
theorem wBet2_isl64 : IsSlice Go.Proofs.Tryz.prog 64 138 := by unfold IsSlice; kernel_rfl
theorem wBet2_mix : (Go.Proofs.Tryz.prog).follows .mixedOrders = true := by kernel_rfl
theorem wBet2_plc29 : Places Go.Proofs.Tryz.prog 29 [(0, 1), (1, 1)] := by unfold Places; kernel_rfl
theorem wBet2_siz138 : Size Go.Proofs.Tryz.prog 138 3 := by unfold Size; kernel_rfl
theorem wBet2_siz22 : Size Go.Proofs.Tryz.prog 22 1 := by unfold Size; kernel_rfl
theorem wBet2_siz23 : Size Go.Proofs.Tryz.prog 23 1 := by unfold Size; kernel_rfl
theorem wBet2_siz25 : Size Go.Proofs.Tryz.prog 25 2 := by unfold Size; kernel_rfl
theorem wBet2_siz29 : Size Go.Proofs.Tryz.prog 29 2 := by unfold Size; kernel_rfl
theorem wBet2_siz3 : Size Go.Proofs.Tryz.prog 3 1 := by unfold Size; kernel_rfl
def wBet2_z29 : D := .cons (.int .i64 0) (.cons (.int .i64 0) (.nil))
theorem wBet2_zch29 : ∀ (ok : Nat → Prop) (w : World), R Go.Proofs.Tryz.prog wBet2_z29 ok w (Value.cells (.agg #[(.int .i64 0), (.int .i64 0)])).toList := fun _ _ => z_int (z_int (z_nil))
theorem wBet2_zer138 : Zero Go.Proofs.Tryz.prog 138 (.agg #[(.int .i64 0), (.int .i64 0), (.int .i64 0)]) := by unfold Zero; kernel_rfl
theorem wBet2_zer22 : Zero Go.Proofs.Tryz.prog 22 (.slice none 0 0) := by unfold Zero; kernel_rfl
theorem wBet2_zer29 : Zero Go.Proofs.Tryz.prog 29 (.agg #[(.int .i64 0), (.int .i64 0)]) := by unfold Zero; kernel_rfl
theorem wBet2_zer3 : Zero Go.Proofs.Tryz.prog 3 (.int .i64 0) := by unfold Zero; kernel_rfl

abbrev intsss (l : List (List (List Int))) : D := .list 1 intss [] l
theorem concatI_spec (L : List (List Int)) (hL : L.flatten.length ≤ 1000000) :
    SpecN Go.Proofs.Tryz.prog 142 [.val (intss L)] 3 1 8 di L.flatten := by
  refine specN_of' Go.Proofs.Tryz.func142 rfl Go.Proofs.Tryz.ntmps142 rfl ?_
  refine f_seq ?_
  refine f_wf (.tmp 0) rfl (fun hwf => ?_) (by simp)
  have hlen : L.length ≤ 140737488355328 := hwf.1
  clear hwf
  have hfl := fun i : Nat => Sp.flat_le L i
  refine f_region (zm5 rfl rfl rfl (snil (f_seq (f_region (zm2 rfl rfl rfl (snil (f_seq (f_seq (f_region (zm1 rfl rfl rfl ?_)))))))))); refine zq (p_len rfl wBet2_isl23 Zz) rfl (zm1 rfl rfl rfl (snil (f_block ?_)))
  refine f_loop (α := Nat) (fun i => i ≤ L.length) (fun i => [(11, iv i), (3, iv ((L.take i).flatten.length)), (0, .val (intss L)), (2, .emp), (9, .val (intss L)), (10, iv L.length)]) (fun i => L.length - i) 0 ?_ ?_ ?_
  · exact Nat.zero_le _
  · exact le_ofL ⟨rfl, rfl, rfl, rfl, rfl, rfl, trivial⟩ rfl
  · rintro i hi
    refine f_seq (f_region ?_); refine zq (p_lss rfl Zz Zz) rfl (snil (f_seq (f_cond rfl ?_ ?_)))
    · intro hc1; (try simp only [bs] at hc1); refine f_skip (f_seq (f_block (f_seq (f_region ?_)))); refine zq ((by first | exact p_indexN rfl wBet2_isl23 wBet2_siz22 Zz Zz (by omega) | exact p_index rfl wBet2_isl23 wBet2_siz22 Zz Zz (by omega) (by omega))) rfl ?_; refine zq (p_load rfl wBet2_agg22 Zz rfl) rfl (zm2 rfl rfl rfl (snil (f_seq ?_)))
      have hft := Sp.flat_take L (i := i) (by omega)
      have hf1 := hfl (i + 1)
      rw [hft, List.length_append] at hf1
      refine f_region (zm1 rfl rfl rfl (zm1 rfl rfl rfl ?_)); refine zq (p_len rfl wBet2_isl22 Zz) rfl ?_; refine zq (p_add rfl Zz Zz (by omega)) rfl (zm2 rfl rfl rfl (snil (f_seq (f_region (zm1 rfl rfl rfl ?_))))); refine zq (p_lss rfl Zz Zz) rfl (snil (f_cond rfl ?_ ?_))
      · intro hc2; (try simp only [bs] at hc2)
        omega
      · intro hc2; (try simp only [bs] at hc2); refine f_skip (f_nil ?_); show AWs _ _ _ _ _; refine f_region ?_; refine zq (p_add rfl Zz Zz (by omega)) rfl (zm1 rfl rfl rfl (snil ?_))
        refine f_back ⟨i + 1, ?_, ?_, le_ofL ⟨rfl, (by rw [hft, List.length_append]; show AV.val (.int .i64 (_ + _)) = _; simp), rfl, rfl, rfl, rfl, trivial⟩ rfl⟩
        · omega
        · omega
    · intro hc1; (try simp only [bs] at hc1); refine f_exit ?_; show AWs _ _ _ _ _; refine f_seq (f_region (zm1 rfl rfl rfl ?_)); refine scons (r_callS (q := false) (ob := 30000) 0 rfl wBet2_isf177 (growNil_spec Go.Proofs.Tryz.layGrI (zv := .int .i64 0) (by_ := 8) (f := di) (e := 3) (F := 177) (sz := 1) rfl rfl (by unfold Size; kernel_rfl) (by unfold Bytes; kernel_rfl) (by unfold Zero; kernel_rfl) rfl rfl (n := (L.take i).flatten.length) (by have := hfl i; omega) (by have := hfl i; omega)) (sa_cons (sh_of Zz rfl) (sa_cons (sh_of Zz rfl) (sa_nil))) (.inl rfl) rfl rfl rfl rfl rfl) ?_; refine zm4 rfl rfl rfl (snil (f_seq (f_seq (f_region (zm1 rfl rfl rfl ?_))))); refine zq (p_len rfl wBet2_isl23 Zz) rfl (zm1 rfl rfl rfl (snil (f_block ?_)))
      refine f_loop (α := Nat × Nat) (fun (j, u) => j ≤ L.length) (fun (j, u) => [(27, iv j), (6, .row 30000 u), (30000, .arr u 3 1 8 di 0 (L.take j).flatten), (2, .emp), (25, .val (intss L)), (26, iv L.length)]) (fun (j, u) => L.length - j) (0, 0) ?_ ?_ ?_
      · exact Nat.zero_le _
      · exact le_ofL ⟨rfl, rfl, rfl, rfl, rfl, rfl, trivial⟩ rfl
      · rintro ⟨j, u⟩ hj
        have hj : j ≤ L.length := hj
        refine f_seq (f_region ?_); refine zq (p_lss rfl Zz Zz) rfl (snil (f_seq (f_cond rfl ?_ ?_)))
        · intro hc3; (try simp only [bs] at hc3); refine f_skip (f_seq (f_block (f_seq ?_)))
          have hft := Sp.flat_take L (i := j) (by omega)
          have hf1 := hfl (j + 1)
          rw [hft, List.length_append] at hf1
          refine f_region ?_; refine zq ((by first | exact p_indexN rfl wBet2_isl23 wBet2_siz22 Zz Zz (by omega) | exact p_index rfl wBet2_isl23 wBet2_siz22 Zz Zz (by omega) (by omega))) rfl ?_; refine zq (p_load rfl wBet2_agg22 Zz rfl) rfl (zm2 rfl rfl rfl (snil (f_region (zm3 rfl rfl rfl (zm1 rfl rfl rfl ?_))))); refine scons (r_appendR (ob := 30000) rfl wBet2_isl22 wBet2_siz3 wBet2_byt3 wBet2_zer3 rfl rfl Zz rfl Zz (by omega) (by omega) rfl rfl rfl rfl rfl) (zm4 rfl rfl rfl (snil (f_nil ?_))); show AWs _ _ _ _ _; refine f_region ?_; refine zq (p_add rfl Zz Zz (by omega)) rfl (zm1 rfl rfl rfl (snil ?_))
          refine f_back ⟨(j + 1, u + 1), ?_, ?_, le_ofL ⟨rfl, rfl, (by rw [hft]; rfl), rfl, rfl, rfl, trivial⟩ rfl⟩
          · show j + 1 ≤ _
            omega
          · show _ - (j + 1) < _ - j
            omega
        · intro hc3; (try simp only [bs] at hc3); refine f_exit ?_; show AWs _ _ _ _ _; refine f_seq (f_region (zm3 rfl rfl rfl (zm4 rfl rfl rfl (snil (f_ret ?_)))))
          refine endsN_ret (resN_eq (resN_row rfl rfl rfl rfl) ?_)
          rw [List.take_of_length_le (by omega)]

theorem concatI2 (a b : List Int) (h : a.length + b.length ≤ 1000000) : SpecN Go.Proofs.Tryz.prog 142 [.val (intss [a, b])] 3 1 8 di (a ++ b) := by
  have := concatI_spec [a, b] (by simpa using h)
  simpa using this
theorem resolve_spec (a b : List Int) (v : Int) (hab : ∀ x ∈ a ++ b, -9223372036854775808 < x ∧ x ≤ 9223372036854775807) (hl : a.length + b.length ≤ 1000000) :
    Spec Go.Proofs.Tryz.prog 102 [.val (ints a), .val (ints b), iv v] (two (ints ((Sp.resolve a b v).getD [])) (D.bool (Sp.resolve a b v).isSome)) := by
  refine spec_of' Go.Proofs.Tryz.func102 rfl Go.Proofs.Tryz.ntmps102 rfl ?_
  refine f_seq (f_region (zm5 rfl rfl rfl (zm2 rfl rfl rfl (snil (f_seq (f_region (zm5 rfl rfl rfl (snil (f_seq (f_seq (f_region (zm1 rfl rfl rfl (zm1 rfl rfl rfl ?_))))))))))))); refine zc (c_buildSlice (f := ints) (za := []) (xs := [.tmp 11, .tmp 12]) rfl rfl wBet2_isl23 wBet2_siz22 wBet2_zer22 rfl rfl ⟨_, _, rfl, Zz, rfl, rfl, ⟨_, _, rfl, Zz, rfl, rfl, rfl⟩⟩) rfl ?_; refine zc (c_call rfl wBet2_isf142 ⟨_, _, rfl, Zz, rfl, rfl⟩ ((concatI2 a b hl).spec 0)) rfl ?_; refine zq (p_len rfl wBet2_isl22 Zz) rfl (zm1 rfl rfl rfl (snil (f_block ?_)))
  refine f_loop (α := Nat × Nat × List Int) (fun (i, u, out) => i ≤ (a ++ b).length ∧ Sp.resGo v [] (a ++ b) = Sp.resGo v out ((a ++ b).drop i) ∧ out.length ≤ i ∧ ∀ x ∈ out, -9223372036854775808 < x ∧ x ≤ 9223372036854775807) (fun (i, u, out) => [(16, iv i), (14, .val (ints (a ++ b))), (15, iv (a ++ b).length), (8, .row 30000 u), (30000, .arr u 3 1 8 di 0 out), (2, iv v)]) (fun (i, u, out) => (a ++ b).length - i) (0, 0, []) ?_ ?_ ?_
  · exact ⟨Nat.zero_le _, by rw [List.drop_zero], Nat.le_refl _, fun x hx => (List.not_mem_nil hx).elim⟩
  · exact Le.trans (GLe.le (g_adopt (ob := 30000) (k := 8) 3 1 8 di 0 rfl rfl rfl rfl)) (le_ofL ⟨rfl, rfl, rfl, rfl, rfl, rfl, trivial⟩ rfl)
  · rintro ⟨i, u, out⟩ ⟨hi, hg, hol, ho⟩
    have hi : i ≤ (a ++ b).length := hi
    have hol : out.length ≤ i := hol
    have ho : ∀ x ∈ out, -9223372036854775808 < x ∧ x ≤ 9223372036854775807 := ho
    have hg : Sp.resGo v [] (a ++ b) = Sp.resGo v out ((a ++ b).drop i) := hg
    refine f_seq (f_region ?_); refine zq (p_lss rfl Zz Zz) rfl (snil (f_seq (f_cond rfl ?_ ?_)))
    · intro hc1; (try simp only [bs] at hc1); refine f_skip (f_seq (f_block (f_seq ?_)))
      have hx := hab _ (Sp.getD_mem (a ++ b) i 0 (by omega))
      have hab2 : (a ++ b).length = a.length + b.length := List.length_append
      refine f_region ?_; refine zq ((by first | exact p_indexN rfl wBet2_isl22 wBet2_siz3 Zz Zz (by omega) | exact p_index rfl wBet2_isl22 wBet2_siz3 Zz Zz (by omega) (by omega))) rfl ?_; refine zq (p_load rfl wBet2_agg3 Zz rfl) rfl (zm2 rfl rfl rfl (snil (f_block (f_seq (f_region (zm1 rfl rfl rfl ?_)))))); refine zc (c_call rfl wBet2_isf43 ⟨_, _, rfl, Zz, rfl, rfl⟩ (var_spec ((a ++ b).getD i 0) (by omega))) rfl (zm1 rfl rfl rfl ?_); refine zq (p_eql rfl Zz Zz) rfl (zm1 rfl rfl rfl ?_); refine scons (CStep.guard rfl rfl rfl (fun hg0 => PStep.c (p_move (y := .row _ _) rfl Zz rfl)) rfl rfl rfl rfl rfl) ?_; refine scons (CStep.guard rfl rfl rfl (fun hg0 => PStep.c (p_move (y := .val _) rfl Zz rfl)) rfl rfl rfl rfl rfl) ?_; refine scons (CStep.guard rfl rfl rfl (fun hg0 => c_callS (q := true) rfl wBet2_isf81 (hasI_spec out ((a ++ b).getD i 0)) (sa_cons (sh_row (Sees.gv' rfl hg0) rfl) (sa_cons (sh_of (Sees.gv' rfl hg0) rfl) (sa_nil))) rfl) rfl rfl rfl rfl rfl) ?_; refine zq (p_or rfl Zz Zz (fun h => Sees.gv' rfl (beq_of_eq h))) rfl (zm2 rfl rfl rfl (snil (f_cond rfl ?_ ?_)))
      · intro hc2; (try simp only [bs] at hc2); refine f_skip (f_nil ?_); show AWs _ _ _ _ _; refine f_nil ?_; show AWs _ _ _ _ _; refine f_region ?_; refine zq (p_add rfl Zz Zz (by omega)) rfl (zm1 rfl rfl rfl (snil ?_))
        refine f_back ⟨(i + 1, u, out), ?_, ?_, le_ofL ⟨rfl, rfl, rfl, rfl, rfl, rfl, trivial⟩ rfl⟩
        · refine ⟨by show i + 1 ≤ _; omega, hg.trans (Sp.resGo_skip (by omega) (by simpa [Sp.av] using hc2)), by show out.length ≤ i + 1; omega, ho⟩
        · show _ - (i + 1) < _ - i
          omega
      · intro hc2; (try simp only [bs] at hc2); refine f_seq (f_region (zm3 rfl rfl rfl (zm1 rfl rfl rfl ?_))); refine zq (p_neg rfl Zz (by omega)) rfl ?_; refine zc (c_callS (q := true) rfl wBet2_isf81 (hasI_spec out (-((a ++ b).getD i 0))) (sa_cons (sh_row Zz rfl) (sa_cons (sh_of Zz rfl) (sa_nil))) rfl) rfl (zm2 rfl rfl rfl (snil (f_cond rfl ?_ ?_)))
        · intro hc3; (try simp only [bs] at hc3); refine f_seq (f_region (zm5 rfl rfl rfl (zm2 rfl rfl rfl (snil (f_ret ?_)))))
          refine ends_ret (res_eq (res2 rfl (res_tmp rfl (Sees.emp rfl 1 di 0)) (res_tmp rfl (Sees.of rfl))) ?_)
          rw [Sp.resolve, hg, Sp.resGo_none (by omega) (by simpa [Sp.av] using hc2) (by simpa using hc3)]
          rfl
        · intro hc3; (try simp only [bs] at hc3); refine f_region (zm3 rfl rfl rfl (zm1 rfl rfl rfl ?_)); refine zc (c_buildSlice (f := di) (za := 0) (xs := [.tmp 21]) rfl rfl wBet2_isl22 wBet2_siz3 wBet2_zer3 rfl rfl ⟨_, _, rfl, Zz, rfl, rfl, rfl⟩) rfl ?_; refine scons (r_appendR (ob := 30000) rfl wBet2_isl22 wBet2_siz3 wBet2_byt3 wBet2_zer3 rfl rfl Zz rfl Zz (by simp only [List.length_cons, List.length_nil, List.length_append] at *; omega) (by simp only [List.length_cons, List.length_nil, List.length_append] at *; omega) rfl rfl rfl rfl rfl) ?_; refine zm4 rfl rfl rfl (snil (f_nil ?_)); show AWs _ _ _ _ _; refine f_nil ?_; show AWs _ _ _ _ _; refine f_region ?_; refine zq (p_add rfl Zz Zz (by omega)) rfl (zm1 rfl rfl rfl (snil ?_))
          refine f_back ⟨(i + 1, u + 1, out ++ [((a ++ b).getD i 0)]), ?_, ?_, le_ofL ⟨rfl, rfl, rfl, rfl, rfl, rfl, trivial⟩ rfl⟩
          · refine ⟨by show i + 1 ≤ _; omega, hg.trans (Sp.resGo_add (by omega) (by simpa [Sp.av] using hc2) (by simpa using hc3)), by show (out ++ [((a ++ b).getD i 0)]).length ≤ i + 1; rw [List.length_append]; simp; omega, fun x h => ?_⟩
            rcases List.mem_append.1 h with h | h
            · exact ho x h
            · rw [List.mem_singleton.1 h]; exact hx
          · show _ - (i + 1) < _ - i
            omega
    · intro hc1; (try simp only [bs] at hc1); refine f_exit ?_; show AWs _ _ _ _ _; refine f_seq ?_
      refine f_le (GLe.le (g_freeze (k := 8) (o1 := 30000) rfl rfl rfl rfl)) ?_ (by simp)
      refine f_region (zm1 rfl rfl rfl ?_); refine zc (c_call rfl wBet2_isf51 ⟨_, _, rfl, Zz, rfl, rfl⟩ (sorted_spec out (by rw [List.length_append] at hi; omega) ho)) rfl ?_; refine zm2 rfl rfl rfl (zm2 rfl rfl rfl (snil (f_ret ?_)))
      refine ends_ret (res_eq (res2 rfl (res_tmp rfl (Sees.of rfl)) (res_tmp rfl (Sees.of rfl))) ?_)
      rw [Sp.resolve, hg, Sp.resGo_end (by omega)]
      rfl

theorem one1_spec (ls : List (List Int)) (i : Int) :
    Spec Go.Proofs.Tryz.prog 111 [iv i, .ptr (intss ls)] (D.bool (decide (0 ≤ i) && decide (i < (ls.length : Int)))) := by
  refine spec_of' Go.Proofs.Tryz.func111 rfl Go.Proofs.Tryz.ntmps111 rfl ?_
  refine f_seq (f_region (zm2 rfl rfl rfl (snil (f_seq (f_region (zm1 rfl rfl rfl ?_)))))); refine zq (p_geq rfl Zz Zz) rfl (zm1 rfl rfl rfl ?_); refine scons (CStep.guard rfl rfl rfl (fun hg0 => PStep.c (p_move (y := .val _) rfl Zz rfl)) rfl rfl rfl rfl rfl) ?_; refine scons (CStep.guard rfl rfl rfl (fun hg0 => PStep.c (p_load rfl wBet2_agg23 Zz rfl)) rfl rfl rfl rfl rfl) ?_; refine scons (CStep.guard rfl rfl rfl (fun hg0 => PStep.c (p_len rfl wBet2_isl23 (Sees.gv' rfl hg0))) rfl rfl rfl rfl rfl) ?_; refine scons (CStep.guard rfl rfl rfl (fun hg0 => PStep.c (p_lss rfl (Sees.gv' rfl hg0) (Sees.gv' rfl hg0))) rfl rfl rfl rfl rfl) ?_; refine zq (p_and rfl Zz (fun h => Sees.gv' rfl (beq_of_eq h)) Zz) rfl (zm2 rfl rfl rfl (snil (f_ret ?_)))
  refine ends_ret (res_eq (res1 rfl (res_tmp rfl (Sees.of rfl))) ?_)
  rfl

theorem one_specB (u : Nat) (ls : List (List Int)) (r : Sp.Rs) (n : Nat) (hn : n ≤ 1000) (hls : ∀ c ∈ ls, Sp.Okc n c) :
    SpecB Go.Proofs.Tryz.prog 69 [.row 30000 u, .val (dCho r), iv n] [(30000, .arr u 22 1 24 ints [] ls)] (two (ints (Sp.resOne ls r n).1) (di (Sp.resOne ls r n).2)) [(30000, .arr u 22 1 24 ints [] ls)] := by
  refine specB_of' Go.Proofs.Tryz.func69 rfl Go.Proofs.Tryz.ntmps69 rfl rfl rfl ?_
  refine f_seq (f_region ?_); refine scons (r_boxR (ob := 10003) rfl Zz rfl rfl rfl rfl rfl rfl) ?_; refine scons (r_box (ob := 10004) rfl Zz rfl rfl rfl rfl rfl rfl) (zm5 rfl rfl rfl (zm2 rfl rfl rfl (snil (f_seq (f_region ?_))))); refine zq (p_makeFunc (l := [.tmp 3]) rfl) rfl ?_; refine zq (p_assign (y := .clo _ _) rfl Zz rfl) rfl (snil (f_seq (f_block (f_seq (f_region ?_))))); refine zq (p_move (y := .clo _ _) rfl Zz rfl) rfl ?_; refine zq (p_fieldRef rfl wBet2_fld138_0 wBet2_siz3 rfl Zz rfl) rfl ?_; refine zq (p_loadB (y := .val _) rfl wBet2_agg3 Zz rfl rfl rfl rfl) rfl ?_; refine zc (c_callC (q := true) rfl wBet2_isf111 (one1_spec ls r.1) Zz (sl_cons (sh_ref1 Sees.same rfl rfl (sh_row Sees.same rfl)) (sl_nil)) (sa_cons (sh_of Zz rfl) (sa_nil)) (by rfl)) rfl ?_; refine zq (p_not rfl Zz) rfl (zm1 rfl rfl rfl ?_); refine scons (CStep.guard rfl rfl rfl (fun hg0 => PStep.c (p_move (y := .clo _ _) rfl Zz rfl)) rfl rfl rfl rfl rfl) ?_; refine scons (CStep.guard rfl rfl rfl (fun hg0 => PStep.c (p_fieldRef rfl wBet2_fld138_1 wBet2_siz3 rfl Zz rfl)) rfl rfl rfl rfl rfl) ?_; refine scons (CStep.guard rfl rfl rfl (fun hg0 => PStep.c (p_loadB (y := .val _) rfl wBet2_agg3 (Sees.gv' rfl hg0) rfl rfl rfl rfl)) rfl rfl rfl rfl rfl) ?_; refine scons (CStep.guard rfl rfl rfl (fun hg0 => c_callC (q := true) rfl wBet2_isf111 (one1_spec ls r.2.1) (Sees.gv' rfl hg0) (sl_cons (sh_ref1 Sees.same rfl rfl (sh_row Sees.same rfl)) (sl_nil)) (sa_cons (sh_of (Sees.gv' rfl hg0) rfl) (sa_nil)) (by rfl)) rfl rfl rfl rfl rfl) ?_; refine scons (CStep.guard rfl rfl rfl (fun hg0 => PStep.c (p_not rfl (Sees.gv' rfl hg0))) rfl rfl rfl rfl rfl) ?_; refine zq (p_or rfl Zz Zz (fun h => Sees.gv' rfl (beq_of_eq h))) rfl (zm1 rfl rfl rfl ?_); refine scons (CStep.guard rfl rfl rfl (fun hg0 => PStep.c (p_fieldRef rfl wBet2_fld138_2 wBet2_siz3 rfl Zz rfl)) rfl rfl rfl rfl rfl) ?_; refine scons (CStep.guard rfl rfl rfl (fun hg0 => PStep.c (p_loadB (y := .val _) rfl wBet2_agg3 (Sees.gv' rfl hg0) rfl rfl rfl rfl)) rfl rfl rfl rfl rfl) ?_; refine scons (CStep.guard rfl rfl rfl (fun hg0 => PStep.c (p_lss rfl (Sees.gv' rfl hg0) Zz)) rfl rfl rfl rfl rfl) ?_; refine zq (p_or rfl Zz Zz (fun h => Sees.gv' rfl (beq_of_eq h))) rfl (zm1 rfl rfl rfl ?_); refine scons (CStep.guard rfl rfl rfl (fun hg0 => PStep.c (p_fieldRef rfl wBet2_fld138_2 wBet2_siz3 rfl Zz rfl)) rfl rfl rfl rfl rfl) ?_; refine scons (CStep.guard rfl rfl rfl (fun hg0 => PStep.c (p_loadB (y := .val _) rfl wBet2_agg3 (Sees.gv' rfl hg0) rfl rfl rfl rfl)) rfl rfl rfl rfl rfl) ?_; refine scons (CStep.guard rfl rfl rfl (fun hg0 => PStep.c (p_move (y := .val _) rfl Zz rfl)) rfl rfl rfl rfl rfl) ?_; refine scons (CStep.guard rfl rfl rfl (fun hg0 => PStep.c (p_gtr rfl (Sees.gv' rfl hg0) (Sees.gv' rfl hg0))) rfl rfl rfl rfl rfl) ?_; refine zq (p_or rfl Zz Zz (fun h => Sees.gv' rfl (beq_of_eq h))) rfl (zm2 rfl rfl rfl (snil (f_cond rfl ?_ ?_)))
  · intro hc1; (try simp only [bs] at hc1); refine f_seq (f_region (zm5 rfl rfl rfl (zm2 rfl rfl rfl (snil (f_ret ?_)))))
    refine endsB_ret (resB_eq (resB2 rfl (resB1_tmp rfl (Sees.emp rfl 1 di 0)) (resB1_tmp rfl (Sees.of rfl))) ?_) ⟨rfl, rfl, trivial⟩ rfl
    rw [Sp.resOne, if_pos (by omega)]
  · intro hc1; (try simp only [bs] at hc1)
    have hin : ¬ (r.1 < 0 ∨ (ls.length : Int) ≤ r.1 ∨ r.2.1 < 0 ∨ (ls.length : Int) ≤ r.2.1 ∨ r.2.2 < 1 ∨ (n : Int) < r.2.2) := by omega
    have hL := hls _ (Sp.getD_mem ls r.1.toNat [] (by omega))
    have hR := hls _ (Sp.getD_mem ls r.2.1.toNat [] (by omega))
    have hl1 := Sp.okc_len hL
    have hl2 := Sp.okc_len hR
    have hle : (ls.getD r.1.toNat []).length + (ls.getD r.2.1.toNat []).length ≤ 1000000 := by omega
    have hrg : ∀ x ∈ (ls.getD r.1.toNat []) ++ (ls.getD r.2.1.toNat []), -9223372036854775808 < x ∧ x ≤ 9223372036854775807 := fun x hx => by
      rcases List.mem_append.1 hx with h | h
      · have := hL.1 x h
        omega
      · have := hR.1 x h
        omega
    have hone : Sp.resOne ls r n = Sp.res2 (ls.getD r.1.toNat []) (ls.getD r.2.1.toNat []) r.2.2 := by rw [Sp.resOne, if_neg hin]
    refine f_seq ?_; refine f_draw wBet2_mix (by kernel_rfl) ?_; refine yq (p_loadB (y := .row _ _) rfl wBet2_agg23 Zz rfl rfl rfl rfl) rfl ?_; refine yq (p_fieldRef rfl wBet2_fld138_0 wBet2_siz3 rfl Zz rfl) rfl ?_; refine yq (p_loadB (y := .val _) rfl wBet2_agg3 Zz rfl rfl rfl rfl) rfl ?_; refine yq ((by first | exact p_indexR rfl wBet2_isl23 wBet2_siz22 Zz rfl Zz (by omega) | exact p_indexRZ rfl wBet2_isl23 wBet2_siz22 Zz rfl Zz (by omega) (by omega))) rfl ?_; refine yq (p_loadE rfl wBet2_agg22 Zz rfl (by omega) (fun _ => rfl)) rfl ?_; refine yq (p_fieldRef rfl wBet2_fld138_2 wBet2_siz3 rfl Zz rfl) rfl ?_; refine yq (p_loadB (y := .val _) rfl wBet2_agg3 Zz rfl rfl rfl rfl) rfl ?_; refine yc (c_call rfl wBet2_isf81 ⟨_, _, rfl, Zz, rfl, ⟨_, _, rfl, Zz, rfl, rfl⟩⟩ (hasI_spec (ls.getD r.1.toNat []) r.2.2)) rfl ?_; refine yq (p_not rfl Zz) rfl (zd1 rfl rfl rfl ?_); refine dcons (CStep.guard rfl rfl rfl (fun hg0 => PStep.c (p_loadB (y := .row _ _) rfl wBet2_agg23 Zz rfl rfl rfl rfl)) rfl rfl rfl rfl rfl) ?_; refine dcons (CStep.guard rfl rfl rfl (fun hg0 => PStep.c (p_fieldRef rfl wBet2_fld138_1 wBet2_siz3 rfl Zz rfl)) rfl rfl rfl rfl rfl) ?_; refine dcons (CStep.guard rfl rfl rfl (fun hg0 => PStep.c (p_loadB (y := .val _) rfl wBet2_agg3 (Sees.gv' rfl hg0) rfl rfl rfl rfl)) rfl rfl rfl rfl rfl) ?_; refine dcons (CStep.guard rfl rfl rfl (fun hg0 => by have hp0 := hg0; (try simp only [bs] at hp0); exact PStep.c ((by first | exact p_indexR rfl wBet2_isl23 wBet2_siz22 (Sees.gv' rfl hg0) rfl (Sees.gv' rfl hg0) (by omega) | exact p_indexRZ rfl wBet2_isl23 wBet2_siz22 (Sees.gv' rfl hg0) rfl (Sees.gv' rfl hg0) (by omega) (by omega)))) rfl rfl rfl rfl rfl) ?_; refine dcons (CStep.guard rfl rfl rfl (fun hg0 => by have hp0 := hg0; (try simp only [bs] at hp0); exact PStep.c (p_loadE rfl wBet2_agg22 (Sees.gv' rfl hg0) rfl (by omega) (fun _ => rfl))) rfl rfl rfl rfl rfl) ?_; refine dcons (CStep.guard rfl rfl rfl (fun hg0 => PStep.c (p_fieldRef rfl wBet2_fld138_2 wBet2_siz3 rfl Zz rfl)) rfl rfl rfl rfl rfl) ?_; refine dcons (CStep.guard rfl rfl rfl (fun hg0 => PStep.c (p_loadB (y := .val _) rfl wBet2_agg3 (Sees.gv' rfl hg0) rfl rfl rfl rfl)) rfl rfl rfl rfl rfl) ?_; refine dcons (CStep.guard rfl rfl rfl (fun hg0 => by have hp0 := hg0; (try simp only [bs] at hp0); exact PStep.c (p_neg rfl (Sees.gv' rfl hg0) (by omega))) rfl rfl rfl rfl rfl) ?_; refine dcons (CStep.guard rfl rfl rfl (fun hg0 => c_call rfl wBet2_isf81 ⟨_, _, rfl, (Sees.gv' rfl hg0), rfl, ⟨_, _, rfl, (Sees.gv' rfl hg0), rfl, rfl⟩⟩ (hasI_spec (ls.getD r.2.1.toNat []) (-r.2.2))) rfl rfl rfl rfl rfl) ?_; refine dcons (CStep.guard rfl rfl rfl (fun hg0 => PStep.c (p_not rfl (Sees.gv' rfl hg0))) rfl rfl rfl rfl rfl) ?_; refine yq (p_or rfl Zz Zz (fun h => Sees.gv' rfl (beq_of_eq h))) rfl (zd2 rfl rfl rfl ?_); refine dnil (by kernel_rfl) (f_cond rfl ?_ ?_)
    · intro hc2; (try simp only [bs] at hc2); refine f_seq (f_region (zm5 rfl rfl rfl (zm2 rfl rfl rfl (snil (f_ret ?_)))))
      refine endsB_ret (resB_eq (resB2 rfl (resB1_tmp rfl (Sees.emp rfl 1 di 0)) (resB1_tmp rfl (Sees.of rfl))) ?_) ⟨rfl, rfl, trivial⟩ rfl
      rw [hone, Sp.res2, if_pos (by simpa using hc2)]
    · intro hc2; (try simp only [bs] at hc2); refine f_skip (f_nil ?_); show AWs _ _ _ _ _; refine f_seq ?_; refine f_draw wBet2_mix (by kernel_rfl) ?_; refine yq (p_loadB (y := .row _ _) rfl wBet2_agg23 Zz rfl rfl rfl rfl) rfl ?_; refine yq (p_fieldRef rfl wBet2_fld138_0 wBet2_siz3 rfl Zz rfl) rfl ?_; refine yq (p_loadB (y := .val _) rfl wBet2_agg3 Zz rfl rfl rfl rfl) rfl ?_; refine yq ((by first | exact p_indexR rfl wBet2_isl23 wBet2_siz22 Zz rfl Zz (by omega) | exact p_indexRZ rfl wBet2_isl23 wBet2_siz22 Zz rfl Zz (by omega) (by omega))) rfl ?_; refine yq (p_loadE rfl wBet2_agg22 Zz rfl (by omega) (fun _ => rfl)) rfl ?_; refine yq (p_loadB (y := .row _ _) rfl wBet2_agg23 Zz rfl rfl rfl rfl) rfl ?_; refine yq (p_fieldRef rfl wBet2_fld138_1 wBet2_siz3 rfl Zz rfl) rfl ?_; refine yq (p_loadB (y := .val _) rfl wBet2_agg3 Zz rfl rfl rfl rfl) rfl ?_; refine yq ((by first | exact p_indexR rfl wBet2_isl23 wBet2_siz22 Zz rfl Zz (by omega) | exact p_indexRZ rfl wBet2_isl23 wBet2_siz22 Zz rfl Zz (by omega) (by omega))) rfl ?_; refine yq (p_loadE rfl wBet2_agg22 Zz rfl (by omega) (fun _ => rfl)) rfl ?_; refine yq (p_fieldRef rfl wBet2_fld138_2 wBet2_siz3 rfl Zz rfl) rfl ?_; refine yq (p_loadB (y := .val _) rfl wBet2_agg3 Zz rfl rfl rfl rfl) rfl ?_; refine yc (c_call rfl wBet2_isf102 ⟨_, _, rfl, Zz, rfl, ⟨_, _, rfl, Zz, rfl, ⟨_, _, rfl, Zz, rfl, rfl⟩⟩⟩ (resolve_spec (ls.getD r.1.toNat []) (ls.getD r.2.1.toNat []) r.2.2 hrg hle)) rfl (zd1 rfl rfl rfl ?_); refine yq (p_extract rfl Zz rfl) rfl ?_; refine yq (p_extract rfl Zz rfl) rfl (zd2 rfl rfl rfl (zd2 rfl rfl rfl ?_)); refine dnil (by kernel_rfl) (f_seq (f_seq (f_region (zm1 rfl rfl rfl ?_)))); refine zq (p_not rfl Zz) rfl (snil (f_cond rfl ?_ ?_))
      · intro hc3; (try simp only [bs] at hc3); refine f_seq (f_region (zm5 rfl rfl rfl (zm2 rfl rfl rfl (snil (f_ret ?_)))))
        refine endsB_ret (resB_eq (resB2 rfl (resB1_tmp rfl (Sees.emp rfl 1 di 0)) (resB1_tmp rfl (Sees.of rfl))) ?_) ⟨rfl, rfl, trivial⟩ rfl
        rw [hone, Sp.res2, if_neg (by simpa using hc2), if_neg (by simpa using hc3)]
      · intro hc3; (try simp only [bs] at hc3); refine f_skip (f_seq (f_region (zm1 rfl rfl rfl (zm2 rfl rfl rfl (zm2 rfl rfl rfl (snil (f_ret ?_)))))))
        refine endsB_ret (resB_eq (resB2 rfl (resB1_tmp rfl (Sees.of rfl)) (resB1_tmp rfl (Sees.of rfl))) ?_) ⟨rfl, rfl, trivial⟩ rfl
        rw [hone, Sp.res2, if_neg (by simpa using hc2), if_pos (by simpa using hc3)]
        rfl

theorem cloneL_spec (a : List (List Int)) (hla : a.length ≤ 1000000) :
    SpecN Go.Proofs.Tryz.prog 49 [.val (intss a)] 22 1 24 ints a := by
  refine specN_of' Go.Proofs.Tryz.func49 rfl Go.Proofs.Tryz.ntmps49 rfl ?_
  refine f_seq ?_
  refine f_wf (.tmp 0) rfl (fun hwf => ?_) (by simp)
  have hlen : a.length ≤ 140737488355328 := hwf.1
  clear hwf
  refine f_sl 0 rfl rfl (fun b hb => ?_) (by simp)
  refine f_region (zm5 rfl rfl rfl (snil (f_seq (f_seq (f_region (zm1 rfl rfl rfl ?_)))))); refine zq (p_eqlNil rfl wBet2_isl23 rfl rfl) rfl (snil (f_cond rfl ?_ ?_))
  · intro hc1; (try simp only [bs] at hc1); refine f_seq (f_region (zm5 rfl rfl rfl (snil (f_ret ?_))))
    refine endsN_ret (resN_eq (resN_emp rfl rfl rfl rfl) ?_)
    exact (hb hc1).symm
  · intro hc1; (try simp only [bs] at hc1); refine f_skip (f_seq (f_region ?_)); refine scons (r_buildRow (f := ints) (za := []) (xs := []) (by_ := 24) (ob := 10005) rfl rfl wBet2_isl23 wBet2_siz22 wBet2_zer22 rfl rfl (by decide) rfl rfl rfl rfl rfl rfl) (zm1 rfl rfl rfl ?_); refine scons (r_appendR (ob := 10005) rfl wBet2_isl23 wBet2_siz22 wBet2_byt22 wBet2_zer22 rfl rfl Zz rfl (Sees.sl rfl) (by simp only [List.length_cons, List.length_nil, List.length_append]; omega) (by simp only [List.length_cons, List.length_nil, List.length_append]; omega) rfl rfl rfl rfl rfl) ?_; refine zm4 rfl rfl rfl (snil (f_ret ?_))
    refine endsN_ret (resN_eq (resN_row rfl rfl rfl rfl) ?_)
    rfl

theorem resCheck_spec (n : Int) (ls : List (List Int)) (l : List Sp.Rs) :
    Spec Go.Proofs.Tryz.prog 30 [.val (cnf n ls), .val (chos l)] (two (intss (Sp.resO n ls l).1) (fault (Sp.resO n ls l).2.1 (Sp.resO n ls l).2.2)) := by
  refine spec_of' Go.Proofs.Tryz.func30 rfl Go.Proofs.Tryz.ntmps30 rfl ?_
  refine f_seq ?_
  refine f_wf (.tmp 1) rfl (fun hwf => ?_) (by simp)
  have hlen : l.length ≤ 140737488355328 := hwf.1
  clear hwf
  refine f_region ?_; refine scons (r_box (ob := 10002) rfl Zz rfl rfl rfl rfl rfl rfl) (zm5 rfl rfl rfl ?_); refine scons (r_alloc (ob := 10005) rfl wBet2_zer29 rfl rfl rfl rfl rfl rfl) (snil (f_seq (f_seq (f_region ?_)))); refine zq (p_loadBS rfl wBet2_agg25 wBet2_siz25 Zz rfl rfl rfl) rfl ?_; refine zc (c_call rfl wBet2_isf67 ⟨_, _, rfl, Zz, rfl, rfl⟩ (ccheck_spec n ls)) rfl ?_; refine scons (r_alloc (ob := 10006) rfl wBet2_zer29 rfl rfl rfl rfl rfl rfl) ?_; refine scons (r_storeS rfl wBet2_siz29 rfl rfl rfl Zz rfl Zz rfl rfl rfl rfl) (snil (f_seq (f_region ?_))); refine zq (p_fieldRef rfl wBet2_fld29_0 wBet2_siz3 rfl Zz rfl) rfl ?_; refine zq (p_loadB (y := .val _) rfl wBet2_agg3 Zz rfl rfl rfl rfl) rfl ?_; refine zq (p_neq rfl Zz Zz) rfl (snil (f_cond rfl ?_ ?_))
  · intro hc1; (try simp only [bs] at hc1); refine f_seq ?_; refine f_draw wBet2_mix (by kernel_rfl) ?_; refine yq (p_loadBS rfl wBet2_agg29 wBet2_siz29 Zz rfl rfl rfl) rfl ?_; refine yq (p_assign (y := .emp) rfl Zz rfl) rfl ?_; refine dcons (r_storeS rfl wBet2_siz29 rfl rfl rfl Zz rfl Zz rfl rfl rfl rfl) ?_; refine dnil (by kernel_rfl) (f_ret ?_)
    refine ends_ret (res_eq (res2 rfl (res_tmp rfl (Sees.emp rfl 1 ints [])) (res_cell (by rfl) rfl rfl wBet2_agg29 wBet2_siz29 rfl rfl)) ?_)
    rw [Sp.resO, if_pos hc1]
    all_goals rfl
  · intro hc1; (try simp only [bs] at hc1)
    obtain ⟨hn1, hl4, _⟩ := Sp.check_ok hc1
    obtain ⟨m, rfl⟩ : ∃ m : Nat, n = m := ⟨n.toNat, by omega⟩
    have hok := Sp.check_okc hc1
    have hro : Sp.resO m ls l = Sp.resR m ls l := Sp.resO_eq hc1
    refine f_skip (f_seq (f_seq (f_region (zm1 rfl rfl rfl ?_)))); refine zq (p_len rfl wBet2_isl64 Zz) rfl ?_; refine zq (p_gtr rfl Zz Zz) rfl (snil (f_cond rfl ?_ ?_))
    · intro hc2; (try simp only [bs] at hc2); refine f_seq (f_region ?_); refine zq (p_build rfl wBet2_plc29 wBet2_zer29 (by decide) wBet2_zch29 ⟨_, _, _, rfl, rfl, rfl, Zz, ⟨_, _, _, rfl, rfl, rfl, Zz, rfl⟩⟩ rfl) rfl (zm5 rfl rfl rfl ?_); refine scons (r_storeS rfl wBet2_siz29 rfl rfl rfl Zz rfl Zz rfl rfl rfl rfl) (snil (f_ret ?_))
      refine ends_ret (res_eq (res2 rfl (res_tmp rfl (Sees.emp rfl 1 ints [])) (res_cell (by rfl) rfl rfl wBet2_agg29 wBet2_siz29 rfl rfl)) ?_)
      rw [hro, Sp.resR, if_pos (by omega)]
      all_goals rfl
    · intro hc2; (try simp only [bs] at hc2); refine f_skip (f_seq (f_region ?_)); refine zq (p_fieldRef rfl wBet2_fld25_1 wBet2_siz23 rfl Zz rfl) rfl ?_; refine zq (p_loadB (y := .val _) rfl wBet2_agg23 Zz rfl rfl rfl rfl) rfl ?_; refine scons (r_callS (q := false) (ob := 30000) [] rfl wBet2_isf49 (cloneL_spec ls (by omega)) (sa_cons (sh_of Zz rfl) (sa_nil)) (.inl rfl) rfl rfl rfl rfl rfl) (zm4 rfl rfl rfl (snil (f_seq (f_seq (f_region (zm1 rfl rfl rfl ?_)))))); refine zq (p_len rfl wBet2_isl64 Zz) rfl (zm1 rfl rfl rfl (snil (f_block ?_)))
      refine f_loop (α := Nat × Nat) (fun (i, u) => i ≤ l.length ∧ Sp.resF m ls 0 l = Sp.resF m (Sp.resTo m ls l i) i (l.drop i)) (fun (i, u) => [(27, iv i), (7, .row 30000 u), (30000, .arr u 22 1 24 ints [] (Sp.resTo m ls l i)), (2, .ref 10002 0 0), (10002, .box 0 (.ccons (iv m) (.ccons (.val (intss ls)) .cnil))), (5, .ref 10005 0 0), (25, .val (chos l)), (26, iv l.length), (10005, .box 0 (.ccons (iv 0) (.ccons (iv 0) .cnil)))]) (fun (i, u) => l.length - i) (0, 0) ?_ ?_ ?_
      · exact ⟨Nat.zero_le _, rfl⟩
      · exact le_ofL ⟨rfl, rfl, rfl, rfl, rfl, rfl, rfl, rfl, rfl, trivial⟩ rfl
      · rintro ⟨i, u⟩ ⟨hi, hf⟩
        have hi : i ≤ l.length := hi
        have hf : Sp.resF m ls 0 l = Sp.resF m (Sp.resTo m ls l i) i (l.drop i) := hf
        refine f_seq (f_region ?_); refine zq (p_lss rfl Zz Zz) rfl (snil (f_seq (f_cond rfl ?_ ?_)))
        · intro hc3; (try simp only [bs] at hc3); refine f_skip (f_seq (f_block (f_seq (f_region (zm1 rfl rfl rfl ?_))))); refine zq ((by first | exact p_indexN rfl wBet2_isl64 wBet2_siz138 Zz Zz (by omega) | exact p_index rfl wBet2_isl64 wBet2_siz138 Zz Zz (by omega) (by omega))) rfl ?_; refine zq (p_loadS rfl wBet2_agg138 wBet2_siz138 Zz ⟨rfl, fun h => R_len rfl h⟩) rfl ?_; refine scons (r_alloc (ob := 10009) rfl wBet2_zer138 rfl rfl rfl rfl rfl rfl) (zm2 rfl rfl rfl ?_); refine scons (r_storeS rfl wBet2_siz138 rfl rfl rfl Zz rfl Zz rfl rfl rfl rfl) (snil (f_seq ?_))
          have hrl := Sp.resTo_len (n := m) (g := ls) (l := l) i (by omega)
          have hrk := Sp.resTo_okc (k := m) (l := l) hok i (by omega)
          refine f_region (zm3 rfl rfl rfl ?_); refine zq (p_loadBS rfl wBet2_agg138 wBet2_siz138 Zz rfl rfl rfl) rfl ?_; refine zq (p_fieldRef rfl wBet2_fld25_0 wBet2_siz3 rfl Zz rfl) rfl ?_; refine zq (p_loadB (y := .val _) rfl wBet2_agg3 Zz rfl rfl rfl rfl) rfl ?_; refine scons (r_callB rfl wBet2_isf69 (one_specB u (Sp.resTo m ls l i) (l.getD i (0, 0, 0)) m (by omega) hrk) ⟨_, _, rfl, Zz, ⟨_, _, rfl, Zz, ⟨_, _, rfl, Zz, rfl⟩⟩⟩ ⟨rfl, trivial⟩ rfl rfl rfl rfl rfl rfl) (zm1 rfl rfl rfl ?_); refine zq (p_extract rfl Zz rfl) rfl ?_; refine zq (p_extract rfl Zz rfl) rfl (zm2 rfl rfl rfl (zm2 rfl rfl rfl (snil (f_seq (f_seq (f_region (zm1 rfl rfl rfl ?_))))))); refine zq (p_neq rfl Zz Zz) rfl (snil (f_cond rfl ?_ ?_))
          · intro hc4; (try simp only [bs] at hc4); refine f_seq (f_region (zm1 rfl rfl rfl (zm1 rfl rfl rfl ?_))); refine zq (p_build rfl wBet2_plc29 wBet2_zer29 (by decide) wBet2_zch29 ⟨_, _, _, rfl, rfl, rfl, Zz, ⟨_, _, _, rfl, rfl, rfl, Zz, rfl⟩⟩ rfl) rfl (zm5 rfl rfl rfl ?_); refine scons (r_storeS rfl wBet2_siz29 rfl rfl rfl Zz rfl Zz rfl rfl rfl rfl) (snil (f_ret ?_))
            refine ends_ret (res_eq (res2 rfl (res_tmp rfl (Sees.emp rfl 1 ints [])) (res_cell (by rfl) rfl rfl wBet2_agg29 wBet2_siz29 rfl rfl)) ?_)
            rw [hro, Sp.resR, if_neg (by omega), hf, Sp.resF_bad (by omega) hc4, if_pos hc4]
            all_goals rfl
          · intro hc4; (try simp only [bs] at hc4); refine f_skip (f_region (zm3 rfl rfl rfl (zm1 rfl rfl rfl ?_))); refine zc (c_buildSlice (f := ints) (za := []) (xs := [.tmp 46]) rfl rfl wBet2_isl23 wBet2_siz22 wBet2_zer22 rfl rfl ⟨_, _, rfl, Zz, rfl, rfl, rfl⟩) rfl ?_; refine scons (r_appendR (ob := 30000) rfl wBet2_isl23 wBet2_siz22 wBet2_byt22 wBet2_zer22 rfl rfl Zz rfl Zz (by simp only [List.length_cons, List.length_nil, List.length_append]; omega) (by simp only [List.length_cons, List.length_nil, List.length_append]; omega) rfl rfl rfl rfl rfl) ?_; refine zm4 rfl rfl rfl (snil (f_nil ?_)); show AWs _ _ _ _ _; refine f_region ?_; refine zq (p_add rfl Zz Zz (by omega)) rfl (zm1 rfl rfl rfl (snil ?_))
            refine f_back ⟨(i + 1, u + 1), ?_, ?_, le_ofL ⟨rfl, rfl, (by rw [Sp.resTo_succ (by omega)]; rfl), rfl, rfl, rfl, rfl, rfl, rfl, trivial⟩ rfl⟩
            · exact ⟨by show i + 1 ≤ _; omega, hf.trans (Sp.resF_step (by omega) hc4)⟩
            · show _ - (i + 1) < _ - i
              omega
        · intro hc3; (try simp only [bs] at hc3); refine f_exit ?_; show AWs _ _ _ _ _; refine f_seq ?_
          have hrl := Sp.resTo_len (n := m) (g := ls) (l := l) i (by omega)
          obtain rfl : i = l.length := by omega
          refine f_region (zm3 rfl rfl rfl ?_); refine zq (p_fieldRef rfl wBet2_fld25_1 wBet2_siz23 rfl Zz rfl) rfl ?_; refine zq (p_loadB (y := .val _) rfl wBet2_agg23 Zz rfl rfl rfl rfl) rfl ?_; refine zq (p_len rfl wBet2_isl23 Zz) rfl ?_; refine scons (LStep.pre (g_freeze (k := 50) (o1 := 30000) rfl rfl rfl rfl) (CStep.step (PStep.c (p_slice  rfl wBet2_isl23 wBet2_siz22 Zz Zz rfl (by omega) (by omega))) rfl rfl rfl rfl)) ?_; refine zc (c_call rfl wBet2_isf49 ⟨_, _, rfl, Zz, rfl, rfl⟩ ((cloneL_spec (((Sp.resTo m ls l l.length).drop ls.length).take ((Sp.resTo m ls l l.length).length - ls.length)) (by simp only [List.length_take, List.length_drop]; omega)).spec [])) rfl ?_; refine zq (p_build rfl wBet2_plc29 wBet2_zer29 (by decide) wBet2_zch29 rfl rfl) rfl (zm2 rfl rfl rfl ?_); refine scons (r_storeS rfl wBet2_siz29 rfl rfl rfl Zz rfl Zz rfl rfl rfl rfl) (snil (f_ret ?_))
          refine ends_ret (res_eq (res2 rfl (res_tmp rfl (Sees.of rfl)) (res_cell (by rfl) rfl rfl wBet2_agg29 wBet2_siz29 rfl rfl)) ?_)
          rw [List.take_of_length_le (by rw [List.length_drop]; exact Nat.le_refl _), hro, Sp.resR, if_neg (by omega), hf, Sp.resF_end (Nat.le_refl _), if_neg (by decide)]
          all_goals rfl

end Go.Um
