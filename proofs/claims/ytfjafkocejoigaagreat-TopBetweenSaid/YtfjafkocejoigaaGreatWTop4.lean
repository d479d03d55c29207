/- Walks of Go functions of this seat, each by its contract. No condition beyond what each theorem says. -/
import Derived.Test.YtfjafkocejoigaaGreatWTop3
import Derived.Test.YtfjafkocejoigaaGreatWBet3
import Derived.Test.YtfjafkocejoigaaGreatTr4
import Derived.Test.YtfjafkocejoigaaGreatProg
import Derived.KernelRfl
import Derived.Test.YtfjafkocejoigaaGreatQ
set_option maxRecDepth 4000
namespace Go.Um
open Go Go.RowKit

theorem wTop4_agg22 : IsAgg Go.Proofs.Tryz.prog 22 false := by unfold IsAgg; kernel_rfl
theorem wTop4_agg23 : IsAgg Go.Proofs.Tryz.prog 23 false := by unfold IsAgg; kernel_rfl
theorem wTop4_agg25 : IsAgg Go.Proofs.Tryz.prog 25 true := by unfold IsAgg; kernel_rfl
theorem wTop4_agg3 : IsAgg Go.Proofs.Tryz.prog 3 false := by unfold IsAgg; kernel_rfl
theorem wTop4_agg34 : IsAgg Go.Proofs.Tryz.prog 34 false := by unfold IsAgg; kernel_rfl
theorem wTop4_agg67 : IsAgg Go.Proofs.Tryz.prog 67 false := by unfold IsAgg; kernel_rfl
theorem wTop4_agg69 : IsAgg Go.Proofs.Tryz.prog 69 true := by unfold IsAgg; kernel_rfl
theorem wTop4_byt22 : Bytes Go.Proofs.Tryz.prog 22 24 := by unfold Bytes; kernel_rfl
theorem wTop4_fld133_0 : IsField Go.Proofs.Tryz.prog 133 0 0 3 := by unfold IsField; kernel_rfl
theorem wTop4_fld25_1 : IsField Go.Proofs.Tryz.prog 25 1 1 23 := by unfold IsField; kernel_rfl
theorem wTop4_fld29_0 : IsField Go.Proofs.Tryz.prog 29 0 0 3 := by unfold IsField; kernel_rfl
theorem wTop4_fld36_0 : IsField Go.Proofs.Tryz.prog 36 0 0 3 := by unfold IsField; kernel_rfl
theorem wTop4_fld36_2 : IsField Go.Proofs.Tryz.prog 36 2 2 34 := by unfold IsField; kernel_rfl
theorem wTop4_fld69_0 : IsField Go.Proofs.Tryz.prog 69 0 0 67 := by unfold IsField; kernel_rfl
theorem wTop4_isf10 : IsFn Go.Proofs.Tryz.prog 10 := by unfold IsFn; kernel_rfl
theorem wTop4_isf11 : IsFn Go.Proofs.Tryz.prog 11 := by unfold IsFn; kernel_rfl
theorem wTop4_isf12 : IsFn Go.Proofs.Tryz.prog 12 := by unfold IsFn; kernel_rfl
theorem wTop4_isf13 : IsFn Go.Proofs.Tryz.prog 13 := by unfold IsFn; kernel_rfl
theorem wTop4_isf15 : IsFn Go.Proofs.Tryz.prog 15 := by unfold IsFn; kernel_rfl
theorem wTop4_isf20 : IsFn Go.Proofs.Tryz.prog 20 := by unfold IsFn; kernel_rfl
theorem wTop4_isf21 : IsFn Go.Proofs.Tryz.prog 21 := by unfold IsFn; kernel_rfl
theorem wTop4_isf22 : IsFn Go.Proofs.Tryz.prog 22 := by unfold IsFn; kernel_rfl
theorem wTop4_isf23 : IsFn Go.Proofs.Tryz.prog 23 := by unfold IsFn; kernel_rfl
theorem wTop4_isf24 : IsFn Go.Proofs.Tryz.prog 24 := by unfold IsFn; kernel_rfl
theorem wTop4_isf25 : IsFn Go.Proofs.Tryz.prog 25 := by unfold IsFn; kernel_rfl
theorem wTop4_isf47 : IsFn Go.Proofs.Tryz.prog 47 := by unfold IsFn; kernel_rfl
theorem wTop4_isf66 : IsFn Go.Proofs.Tryz.prog 66 := by unfold IsFn; kernel_rfl
theorem wTop4_isf7 : IsFn Go.Proofs.Tryz.prog 7 := by unfold IsFn; kernel_rfl
theorem wTop4_isl22 : IsSlice Go.Proofs.Tryz.prog 22 3 := by unfold IsSlice; kernel_rfl
theorem wTop4_isl23 : IsSlice Go.Proofs.Tryz.prog 23 22 := by unfold IsSlice; kernel_rfl
theorem wTop4_isl64 : IsSlice Go.Proofs.Tryz.prog 64 138 := by unfold IsSlice; kernel_rfl
theorem wTop4_isl67 : IsSlice Go.Proofs.Tryz.prog 67 133 := by unfold IsSlice; kernel_rfl
theorem wTop4_mix : (Go.Proofs.Tryz.prog).follows .mixedOrders = true := by kernel_rfl
theorem wTop4_plc25 : Places Go.Proofs.Tryz.prog 25 [(0, 1), (1, 1)] := by unfold Places; kernel_rfl
theorem wTop4_siz133 : Size Go.Proofs.Tryz.prog 133 3 := by unfold Size; kernel_rfl
theorem wTop4_siz22 : Size Go.Proofs.Tryz.prog 22 1 := by unfold Size; kernel_rfl
theorem wTop4_siz23 : Size Go.Proofs.Tryz.prog 23 1 := by unfold Size; kernel_rfl
theorem wTop4_siz25 : Size Go.Proofs.Tryz.prog 25 2 := by unfold Size; kernel_rfl
theorem wTop4_siz29 : Size Go.Proofs.Tryz.prog 29 2 := by unfold Size; kernel_rfl
theorem wTop4_siz3 : Size Go.Proofs.Tryz.prog 3 1 := by unfold Size; kernel_rfl
theorem wTop4_siz34 : Size Go.Proofs.Tryz.prog 34 1 := by unfold Size; kernel_rfl
theorem wTop4_siz36 : Size Go.Proofs.Tryz.prog 36 5 := by unfold Size; kernel_rfl
theorem wTop4_siz67 : Size Go.Proofs.Tryz.prog 67 1 := by unfold Size; kernel_rfl
theorem wTop4_siz69 : Size Go.Proofs.Tryz.prog 69 2 := by unfold Size; kernel_rfl
def wTop4_z25 : D := .cons (.int .i64 0) (.cons (intss []) (.nil))
theorem wTop4_zch25 : ∀ (ok : Nat → Prop) (w : World), R Go.Proofs.Tryz.prog wTop4_z25 ok w (Value.cells (.agg #[(.int .i64 0), (.slice none 0 0)])).toList := fun _ _ => z_int (z_list (z_nil))
theorem wTop4_zer22 : Zero Go.Proofs.Tryz.prog 22 (.slice none 0 0) := by unfold Zero; kernel_rfl
theorem wTop4_zer25 : Zero Go.Proofs.Tryz.prog 25 (.agg #[(.int .i64 0), (.slice none 0 0)]) := by unfold Zero; kernel_rfl
theorem wTop4_zer29 : Zero Go.Proofs.Tryz.prog 29 (.agg #[(.int .i64 0), (.int .i64 0)]) := by unfold Zero; kernel_rfl
theorem wTop4_zer36 : Zero Go.Proofs.Tryz.prog 36 (.agg #[(.int .i64 0), (.slice none 0 0), (.slice none 0 0), (.slice none 0 0), (.int .i64 0)]) := by unfold Zero; kernel_rfl
theorem wTop4_zer69 : Zero Go.Proofs.Tryz.prog 69 (.agg #[(.slice none 0 0), (.int .i64 0)]) := by unfold Zero; kernel_rfl

theorem tstands_spec (n : Int) (ls : List (List Int)) (v : Int) (m : Nat) (hm : m ≤ 1000) (hok : ∀ c ∈ ls, Sp.Okc m c) (hl : ls.length ≤ 1000000) :
    Spec Go.Proofs.Tryz.prog 66 [.val (cnf n ls), iv v] (D.bool (Sp.stV ls v)) := by
  refine spec_of' Go.Proofs.Tryz.func66 rfl Go.Proofs.Tryz.ntmps66 rfl ?_
  refine f_seq (f_region ?_); refine scons (r_box (ob := 10002) rfl Zz rfl rfl rfl rfl rfl rfl) (zm2 rfl rfl rfl (snil (f_seq (f_seq (f_region (zm2 rfl rfl rfl (snil (f_block ?_))))))))
  refine f_loop (α := Nat) (fun i => i ≤ ls.length ∧ ∀ c ∈ ls.take i, (c.any fun y => decide (Sp.av y = v)) = false) (fun i => [(5, iv i), (1, iv v), (2, .ref 10002 0 0), (10002, .box 0 (.ccons (iv n) (.ccons (.val (intss ls)) .cnil)))]) (fun i => ls.length - i) 0 ?_ ?_ ?_
  · exact ⟨Nat.zero_le _, by simp⟩
  · exact le_ofL ⟨rfl, rfl, rfl, rfl, trivial⟩ rfl
  · rintro i ⟨hi, hp⟩
    refine f_seq (f_seq (f_region (zm1 rfl rfl rfl ?_))); refine zq (p_fieldRef rfl wTop4_fld25_1 wTop4_siz23 rfl Zz rfl) rfl ?_; refine zq (p_loadB (y := .val _) rfl wTop4_agg23 Zz rfl rfl rfl rfl) rfl ?_; refine zq (p_len rfl wTop4_isl23 Zz) rfl ?_; refine zq (p_lss rfl Zz Zz) rfl (snil (f_cond rfl ?_ ?_))
    · intro hc1; (try simp only [bs] at hc1); refine f_skip (f_seq (f_block (f_seq (f_region (zm2 rfl rfl rfl (snil (f_block ?_)))))))
      refine f_loop (α := Nat) (fun k => k ≤ (ls.getD i []).length ∧ ∀ y ∈ (ls.getD i []).take k, decide (Sp.av y = v) = false) (fun k => [(6, iv k), (5, iv i), (1, iv v), (2, .ref 10002 0 0), (10002, .box 0 (.ccons (iv n) (.ccons (.val (intss ls)) .cnil)))]) (fun k => (ls.getD i []).length - k) 0 ?_ ?_ ?_
      · exact ⟨Nat.zero_le _, by simp⟩
      · exact le_ofL ⟨rfl, rfl, rfl, rfl, rfl, trivial⟩ rfl
      · rintro k ⟨hk, hq⟩
        refine f_seq (f_seq ?_)
        have hcf := Sp.okc_fine hm (hok _ (Sp.getD_mem ls i [] (by omega)))
        refine f_region (zm1 rfl rfl rfl ?_); refine zq (p_fieldRef rfl wTop4_fld25_1 wTop4_siz23 rfl Zz rfl) rfl ?_; refine zq (p_loadB (y := .val _) rfl wTop4_agg23 Zz rfl rfl rfl rfl) rfl (zm1 rfl rfl rfl ?_); refine zq ((by first | exact p_indexN rfl wTop4_isl23 wTop4_siz22 Zz Zz (by omega) | exact p_index rfl wTop4_isl23 wTop4_siz22 Zz Zz (by omega) (by omega))) rfl ?_; refine zq (p_load rfl wTop4_agg22 Zz rfl) rfl ?_; refine zq (p_len rfl wTop4_isl22 Zz) rfl ?_; refine zq (p_lss rfl Zz Zz) rfl (snil (f_cond rfl ?_ ?_))
        · intro hc2; (try simp only [bs] at hc2); refine f_skip (f_seq (f_block (f_seq (f_region ?_)))); refine zq (p_fieldRef rfl wTop4_fld25_1 wTop4_siz23 rfl Zz rfl) rfl ?_; refine zq (p_loadB (y := .val _) rfl wTop4_agg23 Zz rfl rfl rfl rfl) rfl (zm1 rfl rfl rfl ?_); refine zq ((by first | exact p_indexN rfl wTop4_isl23 wTop4_siz22 Zz Zz (by omega) | exact p_index rfl wTop4_isl23 wTop4_siz22 Zz Zz (by omega) (by omega))) rfl ?_; refine zq (p_load rfl wTop4_agg22 Zz rfl) rfl (zm1 rfl rfl rfl ?_); refine zq ((by first | exact p_indexN rfl wTop4_isl22 wTop4_siz3 Zz Zz (by omega) | exact p_index rfl wTop4_isl22 wTop4_siz3 Zz Zz (by omega) (by omega))) rfl ?_; refine zq (p_load rfl wTop4_agg3 Zz rfl) rfl ?_; refine zc (c_call rfl wTop4_isf47 ⟨_, _, rfl, Zz, rfl, rfl⟩ (kvar_spec ((ls.getD i []).getD k 0) (hcf.2 _ (Sp.getD_mem (ls.getD i []) k 0 (by omega))))) rfl (zm1 rfl rfl rfl ?_); refine zq (p_eql rfl Zz Zz) rfl (snil (f_cond rfl ?_ ?_))
          · intro hc3; (try simp only [bs] at hc3); refine f_seq (f_region (zm2 rfl rfl rfl (snil (f_ret ?_))))
            refine ends_ret (res_eq (res1 rfl (res_tmp rfl (Sees.of rfl))) ?_)
            rw [show Sp.stV ls v = true from List.any_eq_true.2 ⟨_, Sp.getD_mem ls i [] (by omega), List.any_eq_true.2 ⟨_, Sp.getD_mem (ls.getD i []) k 0 (by omega), decide_eq_true hc3⟩⟩]
          · intro hc3; (try simp only [bs] at hc3); refine f_skip (f_nil ?_); show AWs _ _ _ _ _; refine f_region (zm1 rfl rfl rfl ?_); refine zq (p_add rfl Zz Zz (by omega)) rfl (zm2 rfl rfl rfl (snil ?_))
            refine f_back ⟨k + 1, ?_, ?_, le_ofL ⟨rfl, rfl, rfl, rfl, rfl, trivial⟩ rfl⟩
            · exact ⟨by omega, Sp.step_all (z := 0) (by omega) hq (decide_eq_false hc3)⟩
            · omega
        · intro hc2; (try simp only [bs] at hc2); refine f_exit ?_; show AWs _ _ _ _ _; refine f_nil ?_; show AWs _ _ _ _ _; refine f_region (zm1 rfl rfl rfl ?_); refine zq (p_add rfl Zz Zz (by omega)) rfl (zm2 rfl rfl rfl (snil ?_))
          refine f_back ⟨i + 1, ?_, ?_, le_ofL ⟨rfl, rfl, rfl, rfl, trivial⟩ rfl⟩
          · exact ⟨by omega, Sp.step_all (z := []) (by omega) hp (by rw [List.take_of_length_le (by omega)] at hq; exact List.any_eq_false.2 (fun y hy => by rw [hq y hy]; decide))⟩
          · omega
    · intro hc1; (try simp only [bs] at hc1); refine f_exit ?_; show AWs _ _ _ _ _; refine f_seq (f_region (zm2 rfl rfl rfl (snil (f_ret ?_))))
      refine ends_ret (res_eq (res1 rfl (res_tmp rfl (Sees.of rfl))) ?_)
      rw [show Sp.stV ls v = false from List.any_eq_false.2 (fun c hc => by rw [hp c (by rw [List.take_of_length_le (by omega)]; exact hc)]; decide)]

theorem hangs_spec (l : List Sp.Cho) (r n n2 : Int) (a b : List (List Int)) (m : Nat) (hm : m ≤ 1000) (ha : ∀ c ∈ a, Sp.Okc m c) (hb : ∀ c ∈ b, Sp.Okc m c) (hla : a.length ≤ 1000000) (hlb : b.length ≤ 1000000) (hl : l.length ≤ 1000000) :
    Spec Go.Proofs.Tryz.prog 25 [.val (dia l r), .val (cnf n a), .val (cnf n2 b)] (D.bool (Sp.hangB a b l)) := by
  refine spec_of' Go.Proofs.Tryz.func25 rfl Go.Proofs.Tryz.ntmps25 rfl ?_
  refine f_seq (f_region ?_); refine scons (r_box (ob := 10003) rfl Zz rfl rfl rfl rfl rfl rfl) ?_; refine scons (r_box (ob := 10004) rfl Zz rfl rfl rfl rfl rfl rfl) ?_; refine scons (r_box (ob := 10005) rfl Zz rfl rfl rfl rfl rfl rfl) (zm2 rfl rfl rfl (snil (f_seq (f_seq (f_region (zm2 rfl rfl rfl (snil (f_block ?_))))))))
  refine f_loop (α := Nat) (fun i => i ≤ l.length ∧ ∀ c ∈ l.take i, (Sp.stV a c.1 && Sp.stV b c.1) = true) (fun i => [(7, iv i), (3, .ref 10003 0 0), (4, .ref 10004 0 0), (5, .ref 10005 0 0), (10003, .box 0 (.ccons (.val (chos l)) (.ccons (iv r) .cnil))), (10004, .box 0 (.ccons (iv n) (.ccons (.val (intss a)) .cnil))), (10005, .box 0 (.ccons (iv n2) (.ccons (.val (intss b)) .cnil)))]) (fun i => l.length - i) 0 ?_ ?_ ?_
  · exact ⟨Nat.zero_le _, by simp⟩
  · exact le_ofL ⟨rfl, rfl, rfl, rfl, rfl, rfl, rfl, trivial⟩ rfl
  · rintro i ⟨hi, hp⟩
    refine f_seq (f_seq (f_region (zm1 rfl rfl rfl ?_))); refine zq (p_fieldRef rfl wTop4_fld69_0 wTop4_siz67 rfl Zz rfl) rfl ?_; refine zq (p_loadB (y := .val _) rfl wTop4_agg67 Zz rfl rfl rfl rfl) rfl ?_; refine zq (p_len rfl wTop4_isl67 Zz) rfl ?_; refine zq (p_lss rfl Zz Zz) rfl (snil (f_cond rfl ?_ ?_))
    · intro hc1; (try simp only [bs] at hc1); refine f_skip (f_seq (f_block (f_seq ?_))); refine f_draw wTop4_mix (by kernel_rfl) ?_; refine yq (p_loadBS rfl wTop4_agg25 wTop4_siz25 Zz rfl rfl rfl) rfl ?_; refine yq (p_fieldRef rfl wTop4_fld69_0 wTop4_siz67 rfl Zz rfl) rfl ?_; refine yq (p_loadB (y := .val _) rfl wTop4_agg67 Zz rfl rfl rfl rfl) rfl (zd1 rfl rfl rfl ?_); refine yq ((by first | exact p_indexN rfl wTop4_isl67 wTop4_siz133 Zz Zz (by omega) | exact p_index rfl wTop4_isl67 wTop4_siz133 Zz Zz (by omega) (by omega))) rfl ?_; refine yq (p_fieldAddr rfl wTop4_fld133_0 wTop4_siz3 (by decide) Zz rfl rfl) rfl ?_; refine yq (p_load rfl wTop4_agg3 Zz rfl) rfl ?_; refine yc (c_call rfl wTop4_isf66 ⟨_, _, rfl, Zz, rfl, ⟨_, _, rfl, Zz, rfl, rfl⟩⟩ (tstands_spec n a (l.getD i (0, 0, 0)).1 m hm ha hla)) rfl ?_; refine yq (p_not rfl Zz) rfl (zd1 rfl rfl rfl ?_); refine dcons (CStep.guard rfl rfl rfl (fun hg0 => PStep.c (p_loadBS rfl wTop4_agg25 wTop4_siz25 Zz rfl rfl rfl)) rfl rfl rfl rfl rfl) ?_; refine dcons (CStep.guard rfl rfl rfl (fun hg0 => PStep.c (p_fieldRef rfl wTop4_fld69_0 wTop4_siz67 rfl Zz rfl)) rfl rfl rfl rfl rfl) ?_; refine dcons (CStep.guard rfl rfl rfl (fun hg0 => PStep.c (p_loadB (y := .val _) rfl wTop4_agg67 (Sees.gv' rfl hg0) rfl rfl rfl rfl)) rfl rfl rfl rfl rfl) ?_; refine dcons (CStep.guard rfl rfl rfl (fun hg0 => PStep.c (p_move (y := .val _) rfl Zz rfl)) rfl rfl rfl rfl rfl) ?_; refine dcons (CStep.guard rfl rfl rfl (fun hg0 => by have hp0 := hg0; (try simp only [bs] at hp0); exact PStep.c ((by first | exact p_indexN rfl wTop4_isl67 wTop4_siz133 (Sees.gv' rfl hg0) (Sees.gv' rfl hg0) (by omega) | exact p_index rfl wTop4_isl67 wTop4_siz133 (Sees.gv' rfl hg0) (Sees.gv' rfl hg0) (by omega) (by omega)))) rfl rfl rfl rfl rfl) ?_; refine dcons (CStep.guard rfl rfl rfl (fun hg0 => PStep.c (p_fieldAddr rfl wTop4_fld133_0 wTop4_siz3 (by decide) (Sees.gv' rfl hg0) rfl rfl)) rfl rfl rfl rfl rfl) ?_; refine dcons (CStep.guard rfl rfl rfl (fun hg0 => PStep.c (p_load rfl wTop4_agg3 (Sees.gv' rfl hg0) rfl)) rfl rfl rfl rfl rfl) ?_; refine dcons (CStep.guard rfl rfl rfl (fun hg0 => c_call rfl wTop4_isf66 ⟨_, _, rfl, (Sees.gv' rfl hg0), rfl, ⟨_, _, rfl, (Sees.gv' rfl hg0), rfl, rfl⟩⟩ (tstands_spec n2 b (l.getD i (0, 0, 0)).1 m hm hb hlb)) rfl rfl rfl rfl rfl) ?_; refine dcons (CStep.guard rfl rfl rfl (fun hg0 => PStep.c (p_not rfl (Sees.gv' rfl hg0))) rfl rfl rfl rfl rfl) ?_; refine yq (p_or rfl Zz Zz (fun h => Sees.gv' rfl (beq_of_eq h))) rfl ?_; refine dnil (by kernel_rfl) (f_cond rfl ?_ ?_)
      · intro hc2; (try simp only [bs] at hc2); refine f_seq (f_region (zm2 rfl rfl rfl (snil (f_ret ?_))))
        refine ends_ret (res_eq (res1 rfl (res_tmp rfl (Sees.of rfl))) ?_)
        rw [show Sp.hangB a b l = false from List.all_eq_false.2 ⟨_, Sp.getD_mem l i (0, 0, 0) (by omega), by rcases hc2 with h | h <;> rw [h] <;> simp⟩]
      · intro hc2; (try simp only [bs] at hc2); refine f_skip (f_nil ?_); show AWs _ _ _ _ _; refine f_region (zm1 rfl rfl rfl ?_); refine zq (p_add rfl Zz Zz (by omega)) rfl (zm2 rfl rfl rfl (snil ?_))
        refine f_back ⟨i + 1, ?_, ?_, le_ofL ⟨rfl, rfl, rfl, rfl, rfl, rfl, rfl, trivial⟩ rfl⟩
        · exact ⟨by omega, Sp.step_all (z := (0, 0, 0)) (by omega) hp (by rw [hc2.1, hc2.2]; rfl)⟩
        · omega
    · intro hc1; (try simp only [bs] at hc1); refine f_exit ?_; show AWs _ _ _ _ _; refine f_seq (f_region (zm2 rfl rfl rfl (snil (f_ret ?_))))
      refine ends_ret (res_eq (res1 rfl (res_tmp rfl (Sees.of rfl))) ?_)
      rw [show Sp.hangB a b l = true from List.all_eq_true.2 (fun c hc => hp c (by rw [List.take_of_length_le (by omega)]; exact hc))]

set_option maxHeartbeats 4000000 in
theorem TopBetween_spec (a b : List Int) (o : Int) :
    Spec Go.Proofs.Tryz.prog 5 [.val (ints a), .val (ints b), iv o] (D.bool true) := by
  refine spec_of' Go.Proofs.Tryz.func5 rfl Go.Proofs.Tryz.ntmps5 rfl ?_
  refine f_seq ?_
  have hk1 := Sp.cnfOf_check (l := a) (m := 5) (n := 8) (by decide) (by decide)
  have hk2 := Sp.cnfOf_check (l := b) (m := 5) (n := 8) (by decide) (by decide)
  have ho1 := Sp.check_okc hk1
  have ho2 := Sp.check_okc hk2
  have hl1 := Sp.cnfOf_len (l := a) (m := ((5 : Nat) : Int)) (n := 8)
  have hl2 := Sp.cnfOf_len (l := b) (m := ((5 : Nat) : Int)) (n := 8)
  have hkb := Sp.check_app hk1 hk2 (by omega)
  have hob := Sp.check_okc hkb
  obtain ⟨A, hA, hT⟩ := Sp.two_of hkb (by decide) (by rw [List.length_append]; omega) (Sp.opts_ok o)
  refine f_region (zm2 rfl rfl rfl (snil (f_seq (f_region (zm1 rfl rfl rfl ?_))))); refine zc (c_call rfl wTop4_isf7 ⟨_, _, rfl, Zz, rfl, ⟨_, _, rfl, Zz, rfl, ⟨_, _, rfl, Zz, rfl, rfl⟩⟩⟩ (CnfOf_spec a 5 8 (by omega) (by omega))) rfl ?_; refine scons (r_alloc (ob := 10007) rfl wTop4_zer25 rfl rfl rfl rfl rfl rfl) ?_; refine scons (r_storeS rfl wTop4_siz25 rfl rfl rfl Zz rfl Zz rfl rfl rfl rfl) (snil (f_seq (f_region (zm1 rfl rfl rfl ?_)))); refine zc (c_call rfl wTop4_isf7 ⟨_, _, rfl, Zz, rfl, ⟨_, _, rfl, Zz, rfl, ⟨_, _, rfl, Zz, rfl, rfl⟩⟩⟩ (CnfOf_spec b 5 8 (by omega) (by omega))) rfl ?_; refine scons (r_alloc (ob := 10008) rfl wTop4_zer25 rfl rfl rfl rfl rfl rfl) ?_; refine scons (r_storeS rfl wTop4_siz25 rfl rfl rfl Zz rfl Zz rfl rfl rfl rfl) (snil (f_seq ?_)); refine f_draw wTop4_mix (by kernel_rfl) ?_; refine yq (p_fieldRef rfl wTop4_fld25_1 wTop4_siz23 rfl Zz rfl) rfl ?_; refine yq (p_loadB (y := .val _) rfl wTop4_agg23 Zz rfl rfl rfl rfl) rfl ?_; refine dcons (r_appendE (ob := 30000) rfl wTop4_isl23 wTop4_siz22 wTop4_byt22 wTop4_zer22 rfl rfl Zz Zz (by first | omega | (simp only [List.length_append, List.length_nil]; omega)) (by first | omega | (simp only [List.length_append, List.length_nil]; omega)) rfl rfl rfl rfl rfl) ?_; refine yq (p_fieldRef rfl wTop4_fld25_1 wTop4_siz23 rfl Zz rfl) rfl ?_; refine yq (p_loadB (y := .val _) rfl wTop4_agg23 Zz rfl rfl rfl rfl) rfl ?_; refine dcons (r_appendR (ob := 30000) rfl wTop4_isl23 wTop4_siz22 wTop4_byt22 wTop4_zer22 rfl rfl Zz rfl Zz (by first | omega | (simp only [List.length_append, List.length_nil]; omega)) (by first | omega | (simp only [List.length_append, List.length_nil]; omega)) rfl rfl rfl rfl rfl) ?_; refine dcons (LStep.pre (g_freeze (k := 32) (o1 := 30000) rfl rfl rfl rfl) (CStep.step (PStep.c (p_build rfl wTop4_plc25 wTop4_zer25 (by decide) wTop4_zch25 ⟨_, _, _, rfl, rfl, rfl, Zz, ⟨_, _, _, rfl, rfl, rfl, Zz, rfl⟩⟩ rfl)) rfl rfl rfl rfl)) ?_; refine dcons (r_alloc (ob := 10009) rfl wTop4_zer25 rfl rfl rfl rfl rfl rfl) ?_; refine dcons (r_storeS rfl wTop4_siz25 rfl rfl rfl Zz rfl Zz rfl rfl rfl rfl) ?_; refine dnil (by kernel_rfl) (f_seq ?_); refine f_draw wTop4_mix (by kernel_rfl) ?_; refine yq (p_loadBS rfl wTop4_agg25 wTop4_siz25 Zz rfl rfl rfl) rfl (zd1 rfl rfl rfl ?_); refine yc (c_call rfl wTop4_isf12 ⟨_, _, rfl, Zz, rfl, rfl⟩ (options_spec o)) rfl ?_; refine yc (c_call rfl wTop4_isf11 ⟨_, _, rfl, Zz, rfl, ⟨_, _, rfl, (Sees.emp rfl _ _ _), rfl, ⟨_, _, rfl, Zz, rfl, ⟨_, _, rfl, Zz, rfl, rfl⟩⟩⟩⟩ (Do_spec ((5 : Nat) : Int) ((Sp.cnfOf a ((5 : Nat) : Int) 8) ++ (Sp.cnfOf b ((5 : Nat) : Int) 8)) [] (Sp.picked o 1001) (Sp.picked (Sp.q64 o 7) 4) (Sp.picked (Sp.q64 o 28) 3 * 5) (Sp.picked (Sp.q64 o 84) 3) 2000)) rfl (zd1 rfl rfl rfl ?_); refine yq (p_extract rfl Zz rfl) rfl ?_; refine yq (p_extract rfl Zz rfl) rfl ?_; refine dcons (r_alloc (ob := 10010) rfl wTop4_zer36 rfl rfl rfl rfl rfl rfl) ?_; refine dcons (r_alloc (ob := 10011) rfl wTop4_zer29 rfl rfl rfl rfl rfl rfl) ?_; refine dcons (r_storeS rfl wTop4_siz36 rfl rfl rfl Zz rfl Zz rfl rfl rfl rfl) ?_; refine dcons (r_storeS rfl wTop4_siz29 rfl rfl rfl Zz rfl Zz rfl rfl rfl rfl) ?_; refine dnil (by kernel_rfl) (f_seq (f_seq ?_))
  rw [hA]
  refine f_region ?_; refine zq (p_fieldRef rfl wTop4_fld29_0 wTop4_siz3 rfl Zz rfl) rfl ?_; refine zq (p_loadB (y := .val _) rfl wTop4_agg3 Zz rfl rfl rfl rfl) rfl ?_; refine zq (p_neq rfl Zz Zz) rfl (zm1 rfl rfl rfl ?_); refine scons (CStep.guard rfl rfl rfl (fun hg0 => c_call rfl wTop4_isf10 rfl (clausesSure_spec)) rfl rfl rfl rfl rfl) ?_; refine scons (CStep.guard rfl rfl rfl (fun hg0 => PStep.c (p_not rfl (Sees.gv' rfl hg0))) rfl rfl rfl rfl rfl) ?_; refine zq (p_or rfl Zz Zz (fun h => Sees.gv' rfl (beq_of_eq h))) rfl (zm1 rfl rfl rfl ?_); refine scons (CStep.guard rfl rfl rfl (fun hg0 => PStep.c (p_fieldRef rfl wTop4_fld36_0 wTop4_siz3 rfl Zz rfl)) rfl rfl rfl rfl rfl) ?_; refine scons (CStep.guard rfl rfl rfl (fun hg0 => PStep.c (p_loadB (y := .val _) rfl wTop4_agg3 (Sees.gv' rfl hg0) rfl rfl rfl rfl)) rfl rfl rfl rfl rfl) ?_; refine scons (CStep.guard rfl rfl rfl (fun hg0 => PStep.c (p_eql rfl (Sees.gv' rfl hg0) Zz)) rfl rfl rfl rfl rfl) ?_; refine zq (p_or rfl Zz Zz (fun h => Sees.gv' rfl (beq_of_eq h))) rfl (snil (f_cond rfl ?_ ?_))
  · intro hc1; (try simp only [bs] at hc1)
    exfalso
    rcases hc1 with (h | h) | h
    · exact h trivial
    · cases h
    · have := hT.st
      omega
  · intro hc1; (try simp only [bs] at hc1); refine f_skip (f_seq (f_seq (f_region ?_))); refine zq (p_fieldRef rfl wTop4_fld36_0 wTop4_siz3 rfl Zz rfl) rfl ?_; refine zq (p_loadB (y := .val _) rfl wTop4_agg3 Zz rfl rfl rfl rfl) rfl ?_; refine zq (p_eql rfl Zz Zz) rfl (snil (f_cond rfl ?_ ?_))
    · intro hc2; (try simp only [bs] at hc2); refine f_seq (f_region ?_); refine zq (p_loadBS rfl wTop4_agg25 wTop4_siz25 Zz rfl rfl rfl) rfl ?_; refine zc (c_call rfl wTop4_isf13 ⟨_, _, rfl, Zz, rfl, rfl⟩ (models_spec 5 ((Sp.cnfOf a ((5 : Nat) : Int) 8) ++ (Sp.cnfOf b ((5 : Nat) : Int) 8)) (by omega) hob)) rfl ?_; refine zq (p_gtr rfl Zz Zz) rfl (zm2 rfl rfl rfl (snil (f_ret ?_)))
      refine ends_ret (res_eq (res1 rfl (res_tmp rfl (Sees.of rfl))) ?_)
      rw [decide_eq_true (show (0 : Int) < Sp.models 5 ((Sp.cnfOf a ((5 : Nat) : Int) 8) ++ (Sp.cnfOf b ((5 : Nat) : Int) 8)) by have h := Sp.models_can.2 (hT.can.1 hc2); omega)]
    · intro hc2; (try simp only [bs] at hc2)
      obtain ⟨hN, htk, h0, hX⟩ := Sp.refuted hkb (by decide) hT hc2
      refine f_skip (f_seq (f_region ?_)); refine zq (p_loadBS rfl wTop4_agg25 wTop4_siz25 Zz rfl rfl rfl) rfl ?_; refine zq (p_fieldRef rfl wTop4_fld36_2 wTop4_siz34 rfl Zz rfl) rfl ?_; refine zq (p_loadB (y := .val _) rfl wTop4_agg34 Zz rfl rfl rfl rfl) rfl ?_; refine zc (c_call rfl wTop4_isf20 ⟨_, _, rfl, Zz, rfl, ⟨_, _, rfl, Zz, rfl, rfl⟩⟩ (resOf_spec 5 ((Sp.cnfOf a ((5 : Nat) : Int) 8) ++ (Sp.cnfOf b ((5 : Nat) : Int) 8)) A.2.2.1 htk h0 (by omega))) rfl (zm1 rfl rfl rfl ?_); refine zq (p_extract rfl Zz rfl) rfl ?_; refine zq (p_extract rfl Zz rfl) rfl ?_; refine scons (r_alloc (ob := 10013) rfl wTop4_zer29 rfl rfl rfl rfl rfl rfl) (zm2 rfl rfl rfl ?_); refine scons (r_storeS rfl wTop4_siz29 rfl rfl rfl Zz rfl Zz rfl rfl rfl rfl) (snil (f_seq (f_seq (f_region ?_)))); refine zq (p_fieldRef rfl wTop4_fld29_0 wTop4_siz3 rfl Zz rfl) rfl ?_; refine zq (p_loadB (y := .val _) rfl wTop4_agg3 Zz rfl rfl rfl rfl) rfl ?_; refine zq (p_neq rfl Zz Zz) rfl (zm1 rfl rfl rfl ?_); refine scons (CStep.guard rfl rfl rfl (fun hg0 => PStep.c (p_move (y := .val _) rfl Zz rfl)) rfl rfl rfl rfl rfl) ?_; refine scons (CStep.guard rfl rfl rfl (fun hg0 => PStep.c (p_len rfl wTop4_isl64 (Sees.gv' rfl hg0))) rfl rfl rfl rfl rfl) ?_; refine scons (CStep.guard rfl rfl rfl (fun hg0 => PStep.c (p_eql rfl (Sees.gv' rfl hg0) Zz)) rfl rfl rfl rfl rfl) ?_; refine zq (p_or rfl Zz Zz (fun h => Sees.gv' rfl (beq_of_eq h))) rfl (snil (f_cond rfl ?_ ?_))
      · intro hc3; (try simp only [bs] at hc3); refine f_seq (f_region ?_); refine zq (p_fieldRef rfl wTop4_fld29_0 wTop4_siz3 rfl Zz rfl) rfl ?_; refine zq (p_loadB (y := .val _) rfl wTop4_agg3 Zz rfl rfl rfl rfl) rfl ?_; refine zq (p_eql rfl Zz Zz) rfl (zm1 rfl rfl rfl ?_); refine scons (CStep.guard rfl rfl rfl (fun hg0 => PStep.c (p_move (y := .val _) rfl Zz rfl)) rfl rfl rfl rfl rfl) ?_; refine scons (CStep.guard rfl rfl rfl (fun hg0 => PStep.c (p_len rfl wTop4_isl64 (Sees.gv' rfl hg0))) rfl rfl rfl rfl rfl) ?_; refine scons (CStep.guard rfl rfl rfl (fun hg0 => PStep.c (p_eql rfl (Sees.gv' rfl hg0) Zz)) rfl rfl rfl rfl rfl) ?_; refine zq (p_or rfl Zz Zz (fun h => Sees.gv' rfl (beq_of_eq h))) rfl (zm2 rfl rfl rfl (snil (f_ret ?_)))
        refine ends_ret (res_eq (res1 rfl (res_tmp rfl (Sees.of rfl))) ?_)
        rw [show (decide ((Sp.trOf ((Sp.cnfOf a ((5 : Nat) : Int) 8) ++ (Sp.cnfOf b ((5 : Nat) : Int) 8)) A.2.2.1).2.1 = 2) || decide (((Sp.trOf ((Sp.cnfOf a ((5 : Nat) : Int) 8) ++ (Sp.cnfOf b ((5 : Nat) : Int) 8)) A.2.2.1).1.length : Int) = 0)) = true from by
          rcases hc3 with h | h
          · rw [hX.many h]; rfl
          · rw [decide_eq_true h, Bool.or_true]]
      · intro hc3; (try simp only [bs] at hc3)
        have hp := hX.prf (Sp.bet_mk hk1 hk2 (by decide) (by omega)) (by omega)
        obtain ⟨k, e1, e2, hpf⟩ := Sp.prf_of (n := ((5 : Nat) : Int)) (m := ((5 : Nat) : Int)) (by rw [hp])
        obtain rfl : k = 5 := by omega
        have hF := Sp.tak_all (by rw [hp]) hpf (by decide) false
        have hG := Sp.tak_all (by rw [hp]) hpf (by decide) true
        have hFl := hF.len
        have hGl := hG.len
        refine f_skip (f_seq (f_region ?_)); refine zq (p_loadBS rfl wTop4_agg25 wTop4_siz25 Zz rfl rfl rfl) rfl ?_; refine zq (p_loadBS rfl wTop4_agg25 wTop4_siz25 Zz rfl rfl rfl) rfl (zm1 rfl rfl rfl ?_); refine zc (c_call rfl wTop4_isf21 ⟨_, _, rfl, Zz, rfl, ⟨_, _, rfl, Zz, rfl, ⟨_, _, rfl, Zz, rfl, rfl⟩⟩⟩ (Take_spec ((5 : Nat) : Int) (Sp.cnfOf a ((5 : Nat) : Int) 8) ((5 : Nat) : Int) (Sp.cnfOf b ((5 : Nat) : Int) 8) (Sp.trOf ((Sp.cnfOf a ((5 : Nat) : Int) 8) ++ (Sp.cnfOf b ((5 : Nat) : Int) 8)) A.2.2.1).1)) rfl (zm1 rfl rfl rfl ?_); refine zq (p_extract rfl Zz rfl) rfl ?_; refine zq (p_extract rfl Zz rfl) rfl ?_; refine scons (r_alloc (ob := 10014) rfl wTop4_zer69 rfl rfl rfl rfl rfl rfl) ?_; refine scons (r_alloc (ob := 10015) rfl wTop4_zer29 rfl rfl rfl rfl rfl rfl) ?_; refine scons (r_storeS rfl wTop4_siz69 rfl rfl rfl Zz rfl Zz rfl rfl rfl rfl) ?_; refine scons (r_storeS rfl wTop4_siz29 rfl rfl rfl Zz rfl Zz rfl rfl rfl rfl) (snil (f_seq (f_region ?_))); refine zq (p_loadBS rfl wTop4_agg25 wTop4_siz25 Zz rfl rfl rfl) rfl ?_; refine zq (p_loadBS rfl wTop4_agg25 wTop4_siz25 Zz rfl rfl rfl) rfl (zm1 rfl rfl rfl ?_); refine zc (c_call rfl wTop4_isf22 ⟨_, _, rfl, Zz, rfl, ⟨_, _, rfl, Zz, rfl, ⟨_, _, rfl, Zz, rfl, rfl⟩⟩⟩ (Even_spec ((5 : Nat) : Int) (Sp.cnfOf a ((5 : Nat) : Int) 8) ((5 : Nat) : Int) (Sp.cnfOf b ((5 : Nat) : Int) 8) (Sp.trOf ((Sp.cnfOf a ((5 : Nat) : Int) 8) ++ (Sp.cnfOf b ((5 : Nat) : Int) 8)) A.2.2.1).1)) rfl (zm1 rfl rfl rfl ?_); refine zq (p_extract rfl Zz rfl) rfl ?_; refine zq (p_extract rfl Zz rfl) rfl ?_; refine scons (r_alloc (ob := 10016) rfl wTop4_zer69 rfl rfl rfl rfl rfl rfl) ?_; refine scons (r_alloc (ob := 10017) rfl wTop4_zer29 rfl rfl rfl rfl rfl rfl) ?_; refine scons (r_storeS rfl wTop4_siz69 rfl rfl rfl Zz rfl Zz rfl rfl rfl rfl) ?_; refine scons (r_storeS rfl wTop4_siz29 rfl rfl rfl Zz rfl Zz rfl rfl rfl rfl) (snil (f_seq (f_seq (f_region ?_)))); refine zq (p_fieldRef rfl wTop4_fld29_0 wTop4_siz3 rfl Zz rfl) rfl ?_; refine zq (p_loadB (y := .val _) rfl wTop4_agg3 Zz rfl rfl rfl rfl) rfl ?_; refine zq (p_neq rfl Zz Zz) rfl (zm1 rfl rfl rfl ?_); refine scons (CStep.guard rfl rfl rfl (fun hg0 => PStep.c (p_fieldRef rfl wTop4_fld29_0 wTop4_siz3 rfl Zz rfl)) rfl rfl rfl rfl rfl) ?_; refine scons (CStep.guard rfl rfl rfl (fun hg0 => PStep.c (p_loadB (y := .val _) rfl wTop4_agg3 (Sees.gv' rfl hg0) rfl rfl rfl rfl)) rfl rfl rfl rfl rfl) ?_; refine scons (CStep.guard rfl rfl rfl (fun hg0 => PStep.c (p_neq rfl (Sees.gv' rfl hg0) Zz)) rfl rfl rfl rfl rfl) ?_; refine zq (p_or rfl Zz Zz (fun h => Sees.gv' rfl (beq_of_eq h))) rfl (snil (f_cond rfl ?_ ?_))
        · intro hc4; (try simp only [bs] at hc4)
          exfalso
          have h1 := hF.code
          have h2 := hG.code
          rw [h1, h2] at hc4
          simp at hc4
        · intro hc4; (try simp only [bs] at hc4); refine f_skip (f_seq (f_seq (f_region (zm2 rfl rfl rfl (snil (f_block ?_))))))
          refine f_loop (α := Nat) (fun w => w ≤ 32) (fun w => [(18, iv w), (7, .ref 10007 0 0), (10007, .box 0 (.ccons (iv 5) (.ccons (.val (intss (Sp.cnfOf a ((5 : Nat) : Int) 8))) .cnil))), (8, .ref 10008 0 0), (10008, .box 0 (.ccons (iv 5) (.ccons (.val (intss (Sp.cnfOf b ((5 : Nat) : Int) 8))) .cnil))), (14, .ref 10014 0 0), (10014, .box 0 (.ccons (.val (chos (Sp.takO false ((5 : Nat) : Int) (Sp.cnfOf a ((5 : Nat) : Int) 8) ((5 : Nat) : Int) (Sp.cnfOf b ((5 : Nat) : Int) 8) (Sp.trOf ((Sp.cnfOf a ((5 : Nat) : Int) 8) ++ (Sp.cnfOf b ((5 : Nat) : Int) 8)) A.2.2.1).1).1)) (.ccons (iv (Sp.takO false ((5 : Nat) : Int) (Sp.cnfOf a ((5 : Nat) : Int) 8) ((5 : Nat) : Int) (Sp.cnfOf b ((5 : Nat) : Int) 8) (Sp.trOf ((Sp.cnfOf a ((5 : Nat) : Int) 8) ++ (Sp.cnfOf b ((5 : Nat) : Int) 8)) A.2.2.1).1).2.1) .cnil))), (16, .ref 10016 0 0), (10016, .box 0 (.ccons (.val (chos (Sp.takO true ((5 : Nat) : Int) (Sp.cnfOf a ((5 : Nat) : Int) 8) ((5 : Nat) : Int) (Sp.cnfOf b ((5 : Nat) : Int) 8) (Sp.trOf ((Sp.cnfOf a ((5 : Nat) : Int) 8) ++ (Sp.cnfOf b ((5 : Nat) : Int) 8)) A.2.2.1).1).1)) (.ccons (iv (Sp.takO true ((5 : Nat) : Int) (Sp.cnfOf a ((5 : Nat) : Int) 8) ((5 : Nat) : Int) (Sp.cnfOf b ((5 : Nat) : Int) 8) (Sp.trOf ((Sp.cnfOf a ((5 : Nat) : Int) 8) ++ (Sp.cnfOf b ((5 : Nat) : Int) 8)) A.2.2.1).1).2.1) .cnil)))]) (fun w => 32 - w) 0 ?_ ?_ ?_
          · exact Nat.zero_le _
          · exact le_ofL ⟨rfl, rfl, rfl, rfl, rfl, rfl, rfl, rfl, rfl, trivial⟩ rfl
          · rintro w hw
            have hw : w ≤ 32 := hw
            refine f_seq (f_seq (f_region (zm1 rfl rfl rfl ?_))); refine zq (p_lss rfl Zz Zz) rfl (snil (f_cond rfl ?_ ?_))
            · intro hc5; (try simp only [bs] at hc5); refine f_skip (f_seq (f_block (f_seq ?_))); refine f_draw wTop4_mix (by kernel_rfl) ?_; refine yq (p_loadBS rfl wTop4_agg69 wTop4_siz69 Zz rfl rfl rfl) rfl (zd1 rfl rfl rfl ?_); refine yc (c_call rfl wTop4_isf24 ⟨_, _, rfl, Zz, rfl, ⟨_, _, rfl, Zz, rfl, rfl⟩⟩ (topBits_spec w 5 (by omega))) rfl ?_; refine yc (c_call rfl wTop4_isf23 ⟨_, _, rfl, Zz, rfl, ⟨_, _, rfl, Zz, rfl, ⟨_, _, rfl, Zz, rfl, rfl⟩⟩⟩ (Value_spec ((5 : Nat) : Int) (Sp.takO false ((5 : Nat) : Int) (Sp.cnfOf a ((5 : Nat) : Int) 8) ((5 : Nat) : Int) (Sp.cnfOf b ((5 : Nat) : Int) 8) (Sp.trOf ((Sp.cnfOf a ((5 : Nat) : Int) 8) ++ (Sp.cnfOf b ((5 : Nat) : Int) 8)) A.2.2.1).1).1 (Sp.takO false ((5 : Nat) : Int) (Sp.cnfOf a ((5 : Nat) : Int) 8) ((5 : Nat) : Int) (Sp.cnfOf b ((5 : Nat) : Int) 8) (Sp.trOf ((Sp.cnfOf a ((5 : Nat) : Int) 8) ++ (Sp.cnfOf b ((5 : Nat) : Int) 8)) A.2.2.1).1).2.1 (Sp.bitsR 5 w))) rfl (zd1 rfl rfl rfl ?_); refine yq (p_extract rfl Zz rfl) rfl ?_; refine yq (p_extract rfl Zz rfl) rfl ?_; refine dcons (r_alloc (ob := 10020) rfl wTop4_zer29 rfl rfl rfl rfl rfl rfl) (zd2 rfl rfl rfl ?_); refine dcons (r_storeS rfl wTop4_siz29 rfl rfl rfl Zz rfl Zz rfl rfl rfl rfl) ?_; refine dnil (by kernel_rfl) (f_seq ?_); refine f_draw wTop4_mix (by kernel_rfl) ?_; refine yq (p_loadBS rfl wTop4_agg69 wTop4_siz69 Zz rfl rfl rfl) rfl (zd1 rfl rfl rfl ?_); refine yc (c_call rfl wTop4_isf24 ⟨_, _, rfl, Zz, rfl, ⟨_, _, rfl, Zz, rfl, rfl⟩⟩ (topBits_spec w 5 (by omega))) rfl ?_; refine yc (c_call rfl wTop4_isf23 ⟨_, _, rfl, Zz, rfl, ⟨_, _, rfl, Zz, rfl, ⟨_, _, rfl, Zz, rfl, rfl⟩⟩⟩ (Value_spec ((5 : Nat) : Int) (Sp.takO true ((5 : Nat) : Int) (Sp.cnfOf a ((5 : Nat) : Int) 8) ((5 : Nat) : Int) (Sp.cnfOf b ((5 : Nat) : Int) 8) (Sp.trOf ((Sp.cnfOf a ((5 : Nat) : Int) 8) ++ (Sp.cnfOf b ((5 : Nat) : Int) 8)) A.2.2.1).1).1 (Sp.takO true ((5 : Nat) : Int) (Sp.cnfOf a ((5 : Nat) : Int) 8) ((5 : Nat) : Int) (Sp.cnfOf b ((5 : Nat) : Int) 8) (Sp.trOf ((Sp.cnfOf a ((5 : Nat) : Int) 8) ++ (Sp.cnfOf b ((5 : Nat) : Int) 8)) A.2.2.1).1).2.1 (Sp.bitsR 5 w))) rfl (zd1 rfl rfl rfl ?_); refine yq (p_extract rfl Zz rfl) rfl ?_; refine yq (p_extract rfl Zz rfl) rfl ?_; refine dcons (r_alloc (ob := 10022) rfl wTop4_zer29 rfl rfl rfl rfl rfl rfl) (zd2 rfl rfl rfl ?_); refine dcons (r_storeS rfl wTop4_siz29 rfl rfl rfl Zz rfl Zz rfl rfl rfl rfl) ?_; refine dnil (by kernel_rfl) (f_seq (f_seq ?_))
              rw [Sp.tak_val hF (Sp.bitsR_len 5 w), Sp.tak_val hG (Sp.bitsR_len 5 w)]
              refine f_region ?_; refine zq (p_fieldRef rfl wTop4_fld29_0 wTop4_siz3 rfl Zz rfl) rfl ?_; refine zq (p_loadB (y := .val _) rfl wTop4_agg3 Zz rfl rfl rfl rfl) rfl ?_; refine zq (p_neq rfl Zz Zz) rfl (zm1 rfl rfl rfl ?_); refine scons (CStep.guard rfl rfl rfl (fun hg0 => PStep.c (p_fieldRef rfl wTop4_fld29_0 wTop4_siz3 rfl Zz rfl)) rfl rfl rfl rfl rfl) ?_; refine scons (CStep.guard rfl rfl rfl (fun hg0 => PStep.c (p_loadB (y := .val _) rfl wTop4_agg3 (Sees.gv' rfl hg0) rfl rfl rfl rfl)) rfl rfl rfl rfl rfl) ?_; refine scons (CStep.guard rfl rfl rfl (fun hg0 => PStep.c (p_neq rfl (Sees.gv' rfl hg0) Zz)) rfl rfl rfl rfl rfl) ?_; refine zq (p_or rfl Zz Zz (fun h => Sees.gv' rfl (beq_of_eq h))) rfl (snil (f_cond rfl ?_ ?_))
              · intro hc6; (try simp only [bs] at hc6)
                exfalso
                simp at hc6
              · intro hc6; (try simp only [bs] at hc6); refine f_skip (f_seq ?_); refine f_draw wTop4_mix (by kernel_rfl) ?_; refine yq (p_fieldRef rfl wTop4_fld25_1 wTop4_siz23 rfl Zz rfl) rfl ?_; refine yq (p_loadB (y := .val _) rfl wTop4_agg23 Zz rfl rfl rfl rfl) rfl (zd1 rfl rfl rfl ?_); refine yc (c_call rfl wTop4_isf24 ⟨_, _, rfl, Zz, rfl, ⟨_, _, rfl, Zz, rfl, rfl⟩⟩ (topBits_spec w 5 (by omega))) rfl ?_; refine yc (c_call rfl wTop4_isf15 ⟨_, _, rfl, Zz, rfl, ⟨_, _, rfl, Zz, rfl, rfl⟩⟩ (clausesHold_spec (Sp.cnfOf a ((5 : Nat) : Int) 8) (Sp.bitsR 5 w) (by rw [Sp.bitsR_len]; exact ho1))) rfl ?_; refine zd1 rfl rfl rfl ?_; refine dcons (CStep.guard rfl rfl rfl (fun hg0 => PStep.c (p_move (y := .val _) rfl Zz rfl)) rfl rfl rfl rfl rfl) ?_; refine dcons (CStep.guard rfl rfl rfl (fun hg0 => PStep.c (p_not rfl (Sees.gv' rfl hg0))) rfl rfl rfl rfl rfl) ?_; refine dcons (CStep.guard rfl rfl rfl (fun hg0 => PStep.c (p_move (y := .val _) rfl (Sees.gv' rfl hg0) rfl)) rfl rfl rfl rfl rfl) ?_; refine dcons (CStep.guard2 rfl rfl rfl (fun hg1 hg0 => PStep.c (p_move (y := .val _) rfl Zz rfl)) rfl rfl rfl rfl rfl) ?_; refine dcons (CStep.guard2 rfl rfl rfl (fun hg1 hg0 => PStep.c (p_not rfl (Sees.gv' rfl (and_true_of hg1 hg0)))) rfl rfl rfl rfl rfl) ?_; refine dcons (CStep.guard rfl rfl rfl (fun hg0 => PStep.c (p_or rfl (Sees.gv' rfl hg0) Zz (fun h => Sees.gv' rfl (and_true_of hg0 (beq_of_eq h))))) rfl rfl rfl rfl rfl) ?_; refine yq (p_and rfl Zz (fun h => Sees.gv' rfl (beq_of_eq h)) Zz) rfl (zd1 rfl rfl rfl ?_); refine dcons (CStep.guard rfl rfl rfl (fun hg0 => PStep.c (p_fieldRef rfl wTop4_fld25_1 wTop4_siz23 rfl Zz rfl)) rfl rfl rfl rfl rfl) ?_; refine dcons (CStep.guard rfl rfl rfl (fun hg0 => PStep.c (p_loadB (y := .val _) rfl wTop4_agg23 (Sees.gv' rfl hg0) rfl rfl rfl rfl)) rfl rfl rfl rfl rfl) ?_; refine dcons (CStep.guard rfl rfl rfl (fun hg0 => PStep.c (p_move (y := .val _) rfl Zz rfl)) rfl rfl rfl rfl rfl) ?_; refine dcons (CStep.guard rfl rfl rfl (fun hg0 => by have hp0 := hg0; (try simp only [bs] at hp0); exact c_call rfl wTop4_isf24 ⟨_, _, rfl, (Sees.gv' rfl hg0), rfl, ⟨_, _, rfl, Zz, rfl, rfl⟩⟩ (topBits_spec w 5 (by omega))) rfl rfl rfl rfl rfl) ?_; refine dcons (CStep.guard rfl rfl rfl (fun hg0 => c_call rfl wTop4_isf15 ⟨_, _, rfl, (Sees.gv' rfl hg0), rfl, ⟨_, _, rfl, (Sees.gv' rfl hg0), rfl, rfl⟩⟩ (clausesHold_spec (Sp.cnfOf b ((5 : Nat) : Int) 8) (Sp.bitsR 5 w) (by rw [Sp.bitsR_len]; exact ho2))) rfl rfl rfl rfl rfl) ?_; refine dcons (CStep.guard rfl rfl rfl (fun hg0 => PStep.c (p_move (y := .val _) rfl (Sees.gv' rfl hg0) rfl)) rfl rfl rfl rfl rfl) ?_; refine dcons (CStep.guard2 rfl rfl rfl (fun hg1 hg0 => PStep.c (p_move (y := .val _) rfl Zz rfl)) rfl rfl rfl rfl rfl) ?_; refine dcons (CStep.guard2 rfl rfl rfl (fun hg1 hg0 => PStep.c (p_move (y := .val _) rfl (Sees.gv' rfl (and_true_of hg1 hg0)) rfl)) rfl rfl rfl rfl rfl) ?_; refine dcons (CStep.guard2 rfl rfl rfl (fun hg1 hg0 => PStep.c (p_move (y := .val _) rfl Zz rfl)) rfl rfl rfl rfl rfl) ?_; refine dcons (CStep.guard2 rfl rfl rfl (fun hg1 hg0 => PStep.c (p_or rfl (Sees.gv' rfl (and_true_of hg1 hg0)) Zz (fun h => Sees.gv' rfl (and_true_of (and_true_of hg1 hg0) (beq_of_eq h))))) rfl rfl rfl rfl rfl) ?_; refine dcons (CStep.guard rfl rfl rfl (fun hg0 => PStep.c (p_and rfl (Sees.gv' rfl hg0) (fun h => Sees.gv' rfl (and_true_of hg0 (beq_of_eq h))) Zz)) rfl rfl rfl rfl rfl) ?_; refine yq (p_or rfl Zz Zz (fun h => Sees.gv' rfl (beq_of_eq h))) rfl ?_; refine dnil (by kernel_rfl) (f_cond rfl ?_ ?_)
                · intro hc7; (try simp only [bs] at hc7)
                  exfalso
                  have g1 := fun h => Sp.stand_a hpf false (x := (Sp.bitsR 5 w)) h
                  have g2 := fun h => Sp.stand_a hpf true (x := (Sp.bitsR 5 w)) h
                  have g3 := fun h => Sp.stand_b hpf false (x := (Sp.bitsR 5 w)) h
                  have g4 := fun h => Sp.stand_b hpf true (x := (Sp.bitsR 5 w)) h
                  rcases hc7 with ⟨h1, h2⟩ | ⟨h1, h2⟩
                  · rw [g1 h1, g2 h1] at h2
                    simp at h2
                  · rw [g3 h1, g4 h1] at h2
                    simp at h2
                · intro hc7; (try simp only [bs] at hc7); refine f_skip (f_nil ?_); show AWs _ _ _ _ _; refine f_region (zm1 rfl rfl rfl ?_); refine zq (p_add rfl Zz Zz (by omega)) rfl (zm2 rfl rfl rfl (snil ?_))
                  refine f_back ⟨w + 1, ?_, ?_, le_ofL ⟨rfl, rfl, rfl, rfl, rfl, rfl, rfl, rfl, rfl, trivial⟩ rfl⟩
                  · omega
                  · omega
            · intro hc5; (try simp only [bs] at hc5); refine f_exit ?_; show AWs _ _ _ _ _; refine f_seq (f_region ?_); refine zq (p_loadBS rfl wTop4_agg69 wTop4_siz69 Zz rfl rfl rfl) rfl ?_; refine zq (p_loadBS rfl wTop4_agg25 wTop4_siz25 Zz rfl rfl rfl) rfl ?_; refine zq (p_loadBS rfl wTop4_agg25 wTop4_siz25 Zz rfl rfl rfl) rfl ?_; refine zc (c_call rfl wTop4_isf25 ⟨_, _, rfl, Zz, rfl, ⟨_, _, rfl, Zz, rfl, ⟨_, _, rfl, Zz, rfl, rfl⟩⟩⟩ (hangs_spec (Sp.takO false ((5 : Nat) : Int) (Sp.cnfOf a ((5 : Nat) : Int) 8) ((5 : Nat) : Int) (Sp.cnfOf b ((5 : Nat) : Int) 8) (Sp.trOf ((Sp.cnfOf a ((5 : Nat) : Int) 8) ++ (Sp.cnfOf b ((5 : Nat) : Int) 8)) A.2.2.1).1).1 (Sp.takO false ((5 : Nat) : Int) (Sp.cnfOf a ((5 : Nat) : Int) 8) ((5 : Nat) : Int) (Sp.cnfOf b ((5 : Nat) : Int) 8) (Sp.trOf ((Sp.cnfOf a ((5 : Nat) : Int) 8) ++ (Sp.cnfOf b ((5 : Nat) : Int) 8)) A.2.2.1).1).2.1 ((5 : Nat) : Int) ((5 : Nat) : Int) (Sp.cnfOf a ((5 : Nat) : Int) 8) (Sp.cnfOf b ((5 : Nat) : Int) 8) 5 (by omega) ho1 ho2 (by omega) (by omega) (by omega))) rfl (zm1 rfl rfl rfl ?_); refine scons (CStep.guard rfl rfl rfl (fun hg0 => PStep.c (p_loadBS rfl wTop4_agg69 wTop4_siz69 Zz rfl rfl rfl)) rfl rfl rfl rfl rfl) ?_; refine scons (CStep.guard rfl rfl rfl (fun hg0 => PStep.c (p_loadBS rfl wTop4_agg25 wTop4_siz25 Zz rfl rfl rfl)) rfl rfl rfl rfl rfl) ?_; refine scons (CStep.guard rfl rfl rfl (fun hg0 => PStep.c (p_loadBS rfl wTop4_agg25 wTop4_siz25 Zz rfl rfl rfl)) rfl rfl rfl rfl rfl) ?_; refine scons (CStep.guard rfl rfl rfl (fun hg0 => by have hp0 := hg0; (try simp only [bs] at hp0); exact c_call rfl wTop4_isf25 ⟨_, _, rfl, (Sees.gv' rfl hg0), rfl, ⟨_, _, rfl, (Sees.gv' rfl hg0), rfl, ⟨_, _, rfl, (Sees.gv' rfl hg0), rfl, rfl⟩⟩⟩ (hangs_spec (Sp.takO true ((5 : Nat) : Int) (Sp.cnfOf a ((5 : Nat) : Int) 8) ((5 : Nat) : Int) (Sp.cnfOf b ((5 : Nat) : Int) 8) (Sp.trOf ((Sp.cnfOf a ((5 : Nat) : Int) 8) ++ (Sp.cnfOf b ((5 : Nat) : Int) 8)) A.2.2.1).1).1 (Sp.takO true ((5 : Nat) : Int) (Sp.cnfOf a ((5 : Nat) : Int) 8) ((5 : Nat) : Int) (Sp.cnfOf b ((5 : Nat) : Int) 8) (Sp.trOf ((Sp.cnfOf a ((5 : Nat) : Int) 8) ++ (Sp.cnfOf b ((5 : Nat) : Int) 8)) A.2.2.1).1).2.1 ((5 : Nat) : Int) ((5 : Nat) : Int) (Sp.cnfOf a ((5 : Nat) : Int) 8) (Sp.cnfOf b ((5 : Nat) : Int) 8) 5 (by omega) ho1 ho2 (by omega) (by omega) (by omega))) rfl rfl rfl rfl rfl) ?_; refine zq (p_and rfl Zz (fun h => Sees.gv' rfl (beq_of_eq h)) Zz) rfl (zm2 rfl rfl rfl (snil (f_ret ?_)))
              refine ends_ret (res_eq (res1 rfl (res_tmp rfl (Sees.of rfl))) ?_)
              rw [Sp.hang_tak hF, Sp.hang_tak hG]
              rfl

end Go.Um
