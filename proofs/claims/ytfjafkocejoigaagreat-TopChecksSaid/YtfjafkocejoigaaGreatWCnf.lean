/- Walks of Go functions of this seat, each by its contract. No condition beyond what each theorem says. -/
import Derived.Test.YtfjafkocejoigaaGreatBB
import Derived.Test.YtfjafkocejoigaaGreatPA
import Derived.Test.YtfjafkocejoigaaGreatProg
import Derived.KernelRfl
import Derived.Test.YtfjafkocejoigaaGreatQ
set_option maxRecDepth 4000
namespace Go.Um
open Go Go.RowKit

theorem wCnf_agg22 : IsAgg Go.Proofs.Tryz.prog 22 false := by unfold IsAgg; kernel_rfl
theorem wCnf_agg23 : IsAgg Go.Proofs.Tryz.prog 23 false := by unfold IsAgg; kernel_rfl
theorem wCnf_agg29 : IsAgg Go.Proofs.Tryz.prog 29 true := by unfold IsAgg; kernel_rfl
theorem wCnf_agg3 : IsAgg Go.Proofs.Tryz.prog 3 false := by unfold IsAgg; kernel_rfl
theorem wCnf_fld25_0 : IsField Go.Proofs.Tryz.prog 25 0 0 3 := by unfold IsField; kernel_rfl
theorem wCnf_fld25_1 : IsField Go.Proofs.Tryz.prog 25 1 1 23 := by unfold IsField; kernel_rfl
theorem wCnf_isf118 : IsFn Go.Proofs.Tryz.prog 118 := by unfold IsFn; kernel_rfl
theorem wCnf_isf121 : IsFn Go.Proofs.Tryz.prog 121 := by unfold IsFn; kernel_rfl
theorem wCnf_isf124 : IsFn Go.Proofs.Tryz.prog 124 := by unfold IsFn; kernel_rfl
theorem wCnf_isf43 : IsFn Go.Proofs.Tryz.prog 43 := by unfold IsFn; kernel_rfl
theorem wCnf_isf52 : IsFn Go.Proofs.Tryz.prog 52 := by unfold IsFn; kernel_rfl
theorem wCnf_isf89 : IsFn Go.Proofs.Tryz.prog 89 := by unfold IsFn; kernel_rfl
theorem wCnf_isl22 : IsSlice Go.Proofs.Tryz.prog 22 3 := by unfold IsSlice; kernel_rfl
theorem wCnf_isl23 : IsSlice Go.Proofs.Tryz.prog 23 22 := by unfold IsSlice; kernel_rfl
theorem wCnf_mix : (Go.Proofs.Tryz.prog).follows .mixedOrders = true := by kernel_rfl
theorem wCnf_plc29 : Places Go.Proofs.Tryz.prog 29 [(0, 1), (1, 1)] := by unfold Places; kernel_rfl
theorem wCnf_siz22 : Size Go.Proofs.Tryz.prog 22 1 := by unfold Size; kernel_rfl
theorem wCnf_siz23 : Size Go.Proofs.Tryz.prog 23 1 := by unfold Size; kernel_rfl
theorem wCnf_siz29 : Size Go.Proofs.Tryz.prog 29 2 := by unfold Size; kernel_rfl
theorem wCnf_siz3 : Size Go.Proofs.Tryz.prog 3 1 := by unfold Size; kernel_rfl
def wCnf_z29 : D := .cons (.int .i64 0) (.cons (.int .i64 0) (.nil))
theorem wCnf_zch29 : ∀ (ok : Nat → Prop) (w : World), R Go.Proofs.Tryz.prog wCnf_z29 ok w (Value.cells (.agg #[(.int .i64 0), (.int .i64 0)])).toList := fun _ _ => z_int (z_int (z_nil))
theorem wCnf_zer29 : Zero Go.Proofs.Tryz.prog 29 (.agg #[(.int .i64 0), (.int .i64 0)]) := by unfold Zero; kernel_rfl
theorem wCnf_zer3 : Zero Go.Proofs.Tryz.prog 3 (.int .i64 0) := by unfold Zero; kernel_rfl

theorem indexI_spec (l : List Int) (p : Int → Bool) (V : Int → Prop) (hV : ∀ z ∈ l, V z) :
    Spec Go.Proofs.Tryz.prog 118 [.val (ints l), .val (.fn (α := { z : Int // V z }) (fun z => .cons (di z.1) .nil) (fun z => .bool (p z.1)))] (di (Sp.idx p l)) := by
  refine spec_of' Go.Proofs.Tryz.func118 rfl Go.Proofs.Tryz.ntmps118 rfl ?_
  refine f_seq ?_
  refine f_wf (.tmp 0) rfl (fun hwf => ?_) (by simp)
  have hlen : l.length ≤ 140737488355328 := hwf.1
  clear hwf
  refine f_region (zm2 rfl rfl rfl (snil (f_seq (f_seq (f_region (zm1 rfl rfl rfl ?_)))))); refine zq (p_len rfl wCnf_isl22 Zz) rfl (zm1 rfl rfl rfl (snil (f_block ?_)))
  refine f_loop (α := Nat) (fun i => i ≤ l.length ∧ ∀ y ∈ l.take i, p y = false) (fun i => [(8, iv i), (0, .val (ints l)), (1, .val (.fn (α := { z : Int // V z }) (fun z => .cons (di z.1) .nil) (fun z => .bool (p z.1)))), (7, iv l.length)]) (fun i => l.length - i) 0 ?_ ?_ ?_
  · exact ⟨Nat.zero_le _, by simp⟩
  · exact le_ofL ⟨rfl, rfl, rfl, rfl, trivial⟩ rfl
  · rintro i ⟨hi, hp⟩
    refine f_seq (f_region ?_); refine zq (p_lss rfl Zz Zz) rfl (snil (f_seq (f_cond rfl ?_ ?_)))
    · intro hc1; (try simp only [bs] at hc1); refine f_skip (f_seq (f_block (f_seq (f_region (zm1 rfl rfl rfl (zm2 rfl rfl rfl (snil (f_seq (f_region (zm1 rfl rfl rfl (zm1 rfl rfl rfl (zm1 rfl rfl rfl ?_)))))))))))); refine zq ((by first | exact p_indexN rfl wCnf_isl22 wCnf_siz3 Zz Zz (by omega) | exact p_index rfl wCnf_isl22 wCnf_siz3 Zz Zz (by omega) (by omega))) rfl ?_; refine zq (p_load rfl wCnf_agg3 Zz rfl) rfl ?_; refine zc (c_callV (q := false) (⟨l.getD i 0, hV _ (Sp.getD_mem l i 0 (by omega))⟩) rfl Zz rfl (sa_cons (sh_of Zz rfl) (sa_nil)) rfl) rfl (snil (f_cond rfl ?_ ?_))
      · intro hc2; (try simp only [bs] at hc2); refine f_seq (f_region (zm1 rfl rfl rfl (zm2 rfl rfl rfl (snil (f_ret ?_)))))
        refine ends_ret (res_eq (res1 rfl (res_tmp rfl (Sees.of rfl))) ?_)
        rw [Sp.idx_at (by omega) hp hc2]
      · intro hc2; (try simp only [bs] at hc2); refine f_skip (f_nil ?_); show AWs _ _ _ _ _; refine f_region ?_; refine zq (p_add rfl Zz Zz (by omega)) rfl (zm1 rfl rfl rfl (snil ?_))
        refine f_back ⟨i + 1, ?_, ?_, le_ofL ⟨rfl, rfl, rfl, rfl, trivial⟩ rfl⟩
        · refine ⟨by omega, ?_⟩
          rw [Sp.take_getD l i 0 (by omega)]
          intro y hy
          rcases List.mem_append.1 hy with h | h
          · exact hp y h
          · rw [List.mem_singleton.1 h]; exact hc2
        · omega
    · intro hc1; (try simp only [bs] at hc1); refine f_exit ?_; show AWs _ _ _ _ _; refine f_seq (f_region (zm2 rfl rfl rfl (snil (f_ret ?_))))
      refine ends_ret (res_eq (res1 rfl (res_tmp rfl (Sees.of rfl))) ?_)
      rw [List.take_of_length_le (by omega)] at hp
      rw [Sp.idx_none hp]

theorem containsI_spec (l : List Int) (p : Int → Bool) (V : Int → Prop) (hV : ∀ z ∈ l, V z) :
    Spec Go.Proofs.Tryz.prog 121 [.val (ints l), .val (.fn (α := { z : Int // V z }) (fun z => .cons (di z.1) .nil) (fun z => .bool (p z.1)))] (D.bool (l.any p)) := by
  refine spec_of' Go.Proofs.Tryz.func121 rfl Go.Proofs.Tryz.ntmps121 rfl ?_
  refine f_seq (f_region (zm2 rfl rfl rfl (snil (f_seq (f_region (zm1 rfl rfl rfl (zm1 rfl rfl rfl ?_))))))); refine zc (c_call rfl wCnf_isf118 ⟨_, _, rfl, Zz, rfl, ⟨_, _, rfl, Zz, rfl, rfl⟩⟩ (indexI_spec l p V hV)) rfl ?_; refine zq (p_geq rfl Zz Zz) rfl (zm2 rfl rfl rfl (snil (f_ret ?_)))
  refine ends_ret (res_eq (res1 rfl (res_tmp rfl (Sees.of rfl))) ?_)
  rw [Sp.idx_any]

theorem indexII_spec (l : List (List Int)) (p : (List Int) → Bool) (V : (List Int) → Prop) (hV : ∀ z ∈ l, V z) :
    Spec Go.Proofs.Tryz.prog 52 [.val (intss l), .val (.fn (α := { z : (List Int) // V z }) (fun z => .cons (ints z.1) .nil) (fun z => .bool (p z.1)))] (di (Sp.idx p l)) := by
  refine spec_of' Go.Proofs.Tryz.func52 rfl Go.Proofs.Tryz.ntmps52 rfl ?_
  refine f_seq ?_
  refine f_wf (.tmp 0) rfl (fun hwf => ?_) (by simp)
  have hlen : l.length ≤ 140737488355328 := hwf.1
  clear hwf
  refine f_region (zm2 rfl rfl rfl (snil (f_seq (f_seq (f_region (zm1 rfl rfl rfl ?_)))))); refine zq (p_len rfl wCnf_isl23 Zz) rfl (zm1 rfl rfl rfl (snil (f_block ?_)))
  refine f_loop (α := Nat) (fun i => i ≤ l.length ∧ ∀ y ∈ l.take i, p y = false) (fun i => [(8, iv i), (0, .val (intss l)), (1, .val (.fn (α := { z : (List Int) // V z }) (fun z => .cons (ints z.1) .nil) (fun z => .bool (p z.1)))), (7, iv l.length)]) (fun i => l.length - i) 0 ?_ ?_ ?_
  · exact ⟨Nat.zero_le _, by simp⟩
  · exact le_ofL ⟨rfl, rfl, rfl, rfl, trivial⟩ rfl
  · rintro i ⟨hi, hp⟩
    refine f_seq (f_region ?_); refine zq (p_lss rfl Zz Zz) rfl (snil (f_seq (f_cond rfl ?_ ?_)))
    · intro hc1; (try simp only [bs] at hc1); refine f_skip (f_seq (f_block (f_seq (f_region (zm1 rfl rfl rfl (zm2 rfl rfl rfl (snil (f_seq (f_region (zm1 rfl rfl rfl (zm1 rfl rfl rfl (zm1 rfl rfl rfl ?_)))))))))))); refine zq ((by first | exact p_indexN rfl wCnf_isl23 wCnf_siz22 Zz Zz (by omega) | exact p_index rfl wCnf_isl23 wCnf_siz22 Zz Zz (by omega) (by omega))) rfl ?_; refine zq (p_load rfl wCnf_agg22 Zz rfl) rfl ?_; refine zc (c_callV (q := false) (⟨l.getD i [], hV _ (Sp.getD_mem l i [] (by omega))⟩) rfl Zz rfl (sa_cons (sh_of Zz rfl) (sa_nil)) rfl) rfl (snil (f_cond rfl ?_ ?_))
      · intro hc2; (try simp only [bs] at hc2); refine f_seq (f_region (zm1 rfl rfl rfl (zm2 rfl rfl rfl (snil (f_ret ?_)))))
        refine ends_ret (res_eq (res1 rfl (res_tmp rfl (Sees.of rfl))) ?_)
        rw [Sp.idx_at (by omega) hp hc2]
      · intro hc2; (try simp only [bs] at hc2); refine f_skip (f_nil ?_); show AWs _ _ _ _ _; refine f_region ?_; refine zq (p_add rfl Zz Zz (by omega)) rfl (zm1 rfl rfl rfl (snil ?_))
        refine f_back ⟨i + 1, ?_, ?_, le_ofL ⟨rfl, rfl, rfl, rfl, trivial⟩ rfl⟩
        · refine ⟨by omega, ?_⟩
          rw [Sp.take_getD l i [] (by omega)]
          intro y hy
          rcases List.mem_append.1 hy with h | h
          · exact hp y h
          · rw [List.mem_singleton.1 h]; exact hc2
        · omega
    · intro hc1; (try simp only [bs] at hc1); refine f_exit ?_; show AWs _ _ _ _ _; refine f_seq (f_region (zm2 rfl rfl rfl (snil (f_ret ?_))))
      refine ends_ret (res_eq (res1 rfl (res_tmp rfl (Sees.of rfl))) ?_)
      rw [List.take_of_length_le (by omega)] at hp
      rw [Sp.idx_none hp]

theorem containsII_spec (l : List (List Int)) (p : (List Int) → Bool) (V : (List Int) → Prop) (hV : ∀ z ∈ l, V z) :
    Spec Go.Proofs.Tryz.prog 56 [.val (intss l), .val (.fn (α := { z : (List Int) // V z }) (fun z => .cons (ints z.1) .nil) (fun z => .bool (p z.1)))] (D.bool (l.any p)) := by
  refine spec_of' Go.Proofs.Tryz.func56 rfl Go.Proofs.Tryz.ntmps56 rfl ?_
  refine f_seq (f_region (zm2 rfl rfl rfl (snil (f_seq (f_region (zm1 rfl rfl rfl (zm1 rfl rfl rfl ?_))))))); refine zc (c_call rfl wCnf_isf52 ⟨_, _, rfl, Zz, rfl, ⟨_, _, rfl, Zz, rfl, rfl⟩⟩ (indexII_spec l p V hV)) rfl ?_; refine zq (p_geq rfl Zz Zz) rfl (zm2 rfl rfl rfl (snil (f_ret ?_)))
  refine ends_ret (res_eq (res1 rfl (res_tmp rfl (Sees.of rfl))) ?_)
  rw [Sp.idx_any]

theorem var_spec (x : Int) (hx : -9223372036854775808 < x ∧ x ≤ 9223372036854775807) :
    Spec Go.Proofs.Tryz.prog 43 [iv x] (di (max x (-x))) := by
  refine spec_of' Go.Proofs.Tryz.func43 rfl Go.Proofs.Tryz.ntmps43 rfl ?_
  refine f_seq (f_region (zm2 rfl rfl rfl (snil (f_seq (f_region (zm1 rfl rfl rfl (zm1 rfl rfl rfl ?_))))))); refine zq (p_neg rfl Zz (by omega)) rfl ?_; refine zq (p_max rfl Zz Zz) rfl (zm2 rfl rfl rfl (snil (f_ret ?_)))
  refine ends_ret (res_eq (res1 rfl (res_tmp rfl (Sees.of rfl))) ?_)
  rfl

theorem bad1_spec (x : Int) (hx : -9223372036854775808 < x ∧ x ≤ 9223372036854775807) (y : Int) (hy : -9223372036854775808 < y ∧ y ≤ 9223372036854775807) :
    Spec Go.Proofs.Tryz.prog 124 [iv y, .ptr (di x)] (D.bool (decide (max y (-y) = max x (-x)))) := by
  refine spec_of' Go.Proofs.Tryz.func124 rfl Go.Proofs.Tryz.ntmps124 rfl ?_
  refine f_seq (f_region (zm2 rfl rfl rfl (snil (f_seq ?_)))); refine f_draw wCnf_mix (by kernel_rfl) (zd1 rfl rfl rfl ?_); refine yc (c_call rfl wCnf_isf43 ⟨_, _, rfl, Zz, rfl, rfl⟩ (var_spec y hy)) rfl ?_; refine yq (p_load rfl wCnf_agg3 Zz rfl) rfl ?_; refine yc (c_call rfl wCnf_isf43 ⟨_, _, rfl, Zz, rfl, rfl⟩ (var_spec x hx)) rfl ?_; refine yq (p_eql rfl Zz Zz) rfl (zd2 rfl rfl rfl ?_); refine dnil (by kernel_rfl) (f_ret ?_)
  refine ends_ret (res_eq (res1 rfl (res_tmp rfl (Sees.of rfl))) ?_)
  rfl

theorem bad_spec (l : List Int) (n : Int) (hn : 0 ≤ n ∧ n ≤ 4000000000000000000) :
    Spec Go.Proofs.Tryz.prog 89 [.val (ints l), iv n] (two (di (Sp.wrong n l).2) (di (Sp.wrong n l).1)) := by
  refine spec_of' Go.Proofs.Tryz.func89 rfl Go.Proofs.Tryz.ntmps89 rfl ?_
  refine f_seq ?_
  refine f_wf (.tmp 0) rfl (fun hwf => ?_) (by simp)
  have hlen : l.length ≤ 140737488355328 := hwf.1
  clear hwf
  refine f_region (zm2 rfl rfl rfl (zm2 rfl rfl rfl (snil (f_seq (f_seq (f_region (zm1 rfl rfl rfl ?_))))))); refine zq (p_len rfl wCnf_isl22 Zz) rfl (zm1 rfl rfl rfl (snil (f_block ?_)))
  refine f_loop (α := Nat) (fun i => i ≤ l.length ∧ (∀ y ∈ l.take i, -n ≤ y ∧ y ≤ n) ∧ Sp.wrong n l = Sp.wrongFrom n l i) (fun i => [(10, iv i), (0, .val (ints l)), (1, iv n), (8, .val (ints l)), (9, iv l.length)]) (fun i => l.length - i) 0 ?_ ?_ ?_
  · exact ⟨Nat.zero_le _, by simp, rfl⟩
  · exact le_ofL ⟨rfl, rfl, rfl, rfl, rfl, trivial⟩ rfl
  · rintro i ⟨hi, hp, he⟩
    refine f_seq (f_region ?_); refine zq (p_lss rfl Zz Zz) rfl (snil (f_seq (f_cond rfl ?_ ?_)))
    · intro hc1; (try simp only [bs] at hc1); refine f_skip (f_seq (f_block (f_seq (f_region (zm1 rfl rfl rfl ?_))))); refine zq ((by first | exact p_indexN rfl wCnf_isl22 wCnf_siz3 Zz Zz (by omega) | exact p_index rfl wCnf_isl22 wCnf_siz3 Zz Zz (by omega) (by omega))) rfl ?_; refine zq (p_load rfl wCnf_agg3 Zz rfl) rfl ?_; refine scons (r_alloc (ob := 10007) rfl wCnf_zer3 rfl rfl rfl rfl rfl rfl) (zm2 rfl rfl rfl ?_); refine scons (r_store rfl wCnf_siz3 rfl rfl rfl Zz rfl rfl Zz (one_val rfl)) (snil (f_block (f_seq (f_region ?_)))); refine zq (p_loadB (y := .val _) rfl wCnf_agg3 Zz rfl rfl rfl rfl) rfl ?_; refine zq (p_eql rfl Zz Zz) rfl (zm1 rfl rfl rfl ?_); refine scons (CStep.guard rfl rfl rfl (fun hg0 => PStep.c (p_loadB (y := .val _) rfl wCnf_agg3 Zz rfl rfl rfl rfl)) rfl rfl rfl rfl rfl) ?_; refine scons (CStep.guard rfl rfl rfl (fun hg0 => PStep.c (p_move (y := .val _) rfl Zz rfl)) rfl rfl rfl rfl rfl) ?_; refine scons (CStep.guard rfl rfl rfl (fun hg0 => by have hp0 := hg0; (try simp only [bs] at hp0); exact PStep.c (p_neg rfl (Sees.gv' rfl hg0) (by omega))) rfl rfl rfl rfl rfl) ?_; refine scons (CStep.guard rfl rfl rfl (fun hg0 => PStep.c (p_lss rfl (Sees.gv' rfl hg0) (Sees.gv' rfl hg0))) rfl rfl rfl rfl rfl) ?_; refine zq (p_or rfl Zz Zz (fun h => Sees.gv' rfl (beq_of_eq h))) rfl (zm1 rfl rfl rfl ?_); refine scons (CStep.guard rfl rfl rfl (fun hg0 => PStep.c (p_loadB (y := .val _) rfl wCnf_agg3 Zz rfl rfl rfl rfl)) rfl rfl rfl rfl rfl) ?_; refine scons (CStep.guard rfl rfl rfl (fun hg0 => PStep.c (p_move (y := .val _) rfl Zz rfl)) rfl rfl rfl rfl rfl) ?_; refine scons (CStep.guard rfl rfl rfl (fun hg0 => PStep.c (p_gtr rfl (Sees.gv' rfl hg0) (Sees.gv' rfl hg0))) rfl rfl rfl rfl rfl) ?_; refine zq (p_or rfl Zz Zz (fun h => Sees.gv' rfl (beq_of_eq h))) rfl (zm2 rfl rfl rfl (snil (f_cond rfl ?_ ?_)))
      · intro hc2; (try simp only [bs] at hc2); refine f_seq (f_region (zm1 rfl rfl rfl (zm2 rfl rfl rfl (zm2 rfl rfl rfl (snil (f_ret ?_))))))
        refine ends_ret (res_eq (res2 rfl (res_tmp rfl (Sees.of rfl)) (res_tmp rfl (Sees.of rfl))) ?_)
        rw [he, Sp.wrongFrom, if_pos (by omega), if_pos (by omega)]
      · intro hc2; (try simp only [bs] at hc2); refine f_seq (f_region (zm1 rfl rfl rfl (zm1 rfl rfl rfl ?_))); refine zq (p_slice  rfl wCnf_isl22 wCnf_siz3 Zz rfl Zz (by omega) (by omega)) rfl ?_; refine zq (p_makeFunc (l := [.tmp 7]) rfl) rfl ?_; refine zc (c_callS (q := true) rfl wCnf_isf121 (containsI_spec _ (fun y => decide (max y (-y) = max (l.getD i 0) (-l.getD i 0))) (fun y => -9223372036854775808 < y ∧ y ≤ 9223372036854775807) (fun y hy => by have := hp y (by simpa using hy); omega)) (sa_cons (sh_of Zz rfl) (sa_cons (sh_clo Zz wCnf_isf124 (sl_cons (sh_ref1 Sees.same rfl rfl (sh_of Sees.same rfl)) (sl_nil)) (fun _ => rfl) (fun _ => rfl) (fun y => bad1_spec (l.getD i 0) (by omega) y.1 y.2)) (sa_nil))) rfl) rfl ?_; refine zm2 rfl rfl rfl (snil (f_cond rfl ?_ ?_))
        · intro hc3; (try simp only [bs] at hc3); refine f_seq (f_region (zm1 rfl rfl rfl (zm2 rfl rfl rfl (zm2 rfl rfl rfl (snil (f_ret ?_))))))
          refine ends_ret (res_eq (res2 rfl (res_tmp rfl (Sees.of rfl)) (res_tmp rfl (Sees.of rfl))) ?_)
          have hd : Sp.dup l i = true := hc3
          rw [he, Sp.wrongFrom, if_pos (by omega), if_neg (by omega), if_pos hd]
        · intro hc3; (try simp only [bs] at hc3); refine f_skip (f_nil ?_); show AWs _ _ _ _ _; refine f_nil ?_; show AWs _ _ _ _ _; refine f_region ?_; refine zq (p_add rfl Zz Zz (by omega)) rfl (zm1 rfl rfl rfl (snil ?_))
          refine f_back ⟨i + 1, ?_, ?_, le_ofL ⟨rfl, rfl, rfl, rfl, rfl, trivial⟩ rfl⟩
          · have hd : Sp.dup l i = false := hc3
            refine ⟨by omega, ?_, by rw [he, Sp.wrongFrom, if_pos (by omega), if_neg (by omega), if_neg (by rw [hd]; decide)]⟩
            rw [Sp.take_getD l i 0 (by omega)]
            intro y hy
            rcases List.mem_append.1 hy with h | h
            · exact hp y h
            · rw [List.mem_singleton.1 h]; omega
          · omega
    · intro hc1; (try simp only [bs] at hc1); refine f_exit ?_; show AWs _ _ _ _ _; refine f_seq (f_region (zm2 rfl rfl rfl (zm2 rfl rfl rfl (snil (f_ret ?_)))))
      refine ends_ret (res_eq (res2 rfl (res_tmp rfl (Sees.of rfl)) (res_tmp rfl (Sees.of rfl))) ?_)
      rw [he, Sp.wrongFrom, if_neg (by omega)]
      all_goals rfl

theorem ccheck_spec (n : Int) (ls : List (List Int)) :
    Spec Go.Proofs.Tryz.prog 67 [.val (cnf n ls)] (fault (Sp.check n ls).1 (Sp.check n ls).2) := by
  refine spec_of' Go.Proofs.Tryz.func67 rfl Go.Proofs.Tryz.ntmps67 rfl ?_
  refine f_seq ?_
  refine f_wf (.tmp 0) rfl (fun hwf => ?_) (by simp)
  have hlen : ls.length ≤ 140737488355328 := hwf.2.1.1
  have hsub : ∀ i, i < ls.length → (ls.getD i []).length ≤ 140737488355328 := fun i hi => (hwf.2.1.2 _ (Sp.getD_mem ls i [] hi)).1
  clear hwf
  refine f_region ?_; refine scons (r_box (ob := 10001) rfl Zz rfl rfl rfl rfl rfl rfl) ?_; refine scons (r_alloc (ob := 10002) rfl wCnf_zer29 rfl rfl rfl rfl rfl rfl) (snil (f_seq (f_block (f_seq (f_region ?_))))); refine zq (p_fieldRef rfl wCnf_fld25_0 wCnf_siz3 rfl Zz rfl) rfl ?_; refine zq (p_loadB (y := .val _) rfl wCnf_agg3 Zz rfl rfl rfl rfl) rfl ?_; refine zq (p_lss rfl Zz Zz) rfl (zm1 rfl rfl rfl ?_); refine scons (CStep.guard rfl rfl rfl (fun hg0 => PStep.c (p_fieldRef rfl wCnf_fld25_0 wCnf_siz3 rfl Zz rfl)) rfl rfl rfl rfl rfl) ?_; refine scons (CStep.guard rfl rfl rfl (fun hg0 => PStep.c (p_loadB (y := .val _) rfl wCnf_agg3 (Sees.gv' rfl hg0) rfl rfl rfl rfl)) rfl rfl rfl rfl rfl) ?_; refine scons (CStep.guard rfl rfl rfl (fun hg0 => PStep.c (p_gtr rfl (Sees.gv' rfl hg0) Zz)) rfl rfl rfl rfl rfl) ?_; refine zq (p_or rfl Zz Zz (fun h => Sees.gv' rfl (beq_of_eq h))) rfl (zm2 rfl rfl rfl (snil (f_cond rfl ?_ ?_)))
  · intro hc1; (try simp only [bs] at hc1); refine f_seq (f_region ?_); refine zq (p_build rfl wCnf_plc29 wCnf_zer29 (by decide) wCnf_zch29 ⟨_, _, _, rfl, rfl, rfl, Zz, rfl⟩ rfl) rfl ?_; refine scons (r_storeS rfl wCnf_siz29 rfl rfl rfl Zz rfl Zz rfl rfl rfl rfl) (snil (f_ret ?_))
    refine ends_ret (res_eq (res1 rfl (res_cell (by rfl) rfl rfl wCnf_agg29 wCnf_siz29 rfl rfl)) ?_)
    rw [Sp.check, if_pos (by omega)]
    all_goals rfl
  · intro hc1; (try simp only [bs] at hc1); refine f_seq (f_region ?_); refine zq (p_fieldRef rfl wCnf_fld25_1 wCnf_siz23 rfl Zz rfl) rfl ?_; refine zq (p_loadB (y := .val _) rfl wCnf_agg23 Zz rfl rfl rfl rfl) rfl ?_; refine zq (p_len rfl wCnf_isl23 Zz) rfl ?_; refine zq (p_gtr rfl Zz Zz) rfl (zm2 rfl rfl rfl (snil (f_cond rfl ?_ ?_)))
    · intro hc2; (try simp only [bs] at hc2); refine f_seq (f_region ?_); refine zq (p_build rfl wCnf_plc29 wCnf_zer29 (by decide) wCnf_zch29 ⟨_, _, _, rfl, rfl, rfl, Zz, rfl⟩ rfl) rfl ?_; refine scons (r_storeS rfl wCnf_siz29 rfl rfl rfl Zz rfl Zz rfl rfl rfl rfl) (snil (f_ret ?_))
      refine ends_ret (res_eq (res1 rfl (res_cell (by rfl) rfl rfl wCnf_agg29 wCnf_siz29 rfl rfl)) ?_)
      rw [Sp.check, if_neg (by omega), if_pos (by omega)]
      all_goals rfl
    · intro hc2; (try simp only [bs] at hc2); refine f_skip (f_nil ?_); show AWs _ _ _ _ _; refine f_seq (f_seq (f_region ?_)); refine zq (p_fieldRef rfl wCnf_fld25_1 wCnf_siz23 rfl Zz rfl) rfl ?_; refine zq (p_loadB (y := .val _) rfl wCnf_agg23 Zz rfl rfl rfl rfl) rfl ?_; refine zq (p_len rfl wCnf_isl23 Zz) rfl (zm1 rfl rfl rfl (snil (f_block ?_)))
      refine f_loop (α := Nat) (fun i => i ≤ ls.length ∧ Sp.check n ls = Sp.checkFrom n ls i) (fun i => [(26, iv i), (1, .ref 10001 0 0), (2, .ref 10002 0 0), (24, .val (intss ls)), (25, iv ls.length), (10001, .box 0 (.ccons (iv n) (.ccons (.val (intss ls)) .cnil))), (10002, .box 0 (.ccons (iv 0) (.ccons (iv 0) .cnil)))]) (fun i => ls.length - i) 0 ?_ ?_ ?_
      · exact ⟨Nat.zero_le _, by rw [Sp.check, if_neg (by omega), if_neg (by omega)]⟩
      · exact le_ofL ⟨rfl, rfl, rfl, rfl, rfl, rfl, rfl, trivial⟩ rfl
      · rintro i ⟨hi, he⟩
        refine f_seq (f_region ?_); refine zq (p_lss rfl Zz Zz) rfl (snil (f_seq (f_cond rfl ?_ ?_)))
        · intro hc3; (try simp only [bs] at hc3); refine f_skip (f_seq (f_block (f_seq (f_region (zm1 rfl rfl rfl ?_))))); refine zq ((by first | exact p_indexN rfl wCnf_isl23 wCnf_siz22 Zz Zz (by omega) | exact p_index rfl wCnf_isl23 wCnf_siz22 Zz Zz (by omega) (by omega))) rfl ?_; refine zq (p_load rfl wCnf_agg22 Zz rfl) rfl (zm2 rfl rfl rfl (zm2 rfl rfl rfl (snil (f_seq (f_seq ?_)))))
          have hsl := hsub i (by omega)
          refine f_region (zm1 rfl rfl rfl ?_); refine zq (p_len rfl wCnf_isl22 Zz) rfl ?_; refine zq (p_gtr rfl Zz Zz) rfl (snil (f_cond rfl ?_ ?_))
          · intro hc4; (try simp only [bs] at hc4); refine f_seq (f_region (zm1 rfl rfl rfl ?_)); refine zq (p_build rfl wCnf_plc29 wCnf_zer29 (by decide) wCnf_zch29 ⟨_, _, _, rfl, rfl, rfl, Zz, ⟨_, _, _, rfl, rfl, rfl, Zz, rfl⟩⟩ rfl) rfl ?_; refine scons (r_storeS rfl wCnf_siz29 rfl rfl rfl Zz rfl Zz rfl rfl rfl rfl) (snil (f_ret ?_))
            refine ends_ret (res_eq (res1 rfl (res_cell (by rfl) rfl rfl wCnf_agg29 wCnf_siz29 rfl rfl)) ?_)
            rw [he, Sp.checkFrom, if_pos (by omega), if_pos (by omega)]
            all_goals rfl
          · intro hc4; (try simp only [bs] at hc4); refine f_skip (f_seq (f_region (zm1 rfl rfl rfl ?_))); refine zq (p_fieldRef rfl wCnf_fld25_0 wCnf_siz3 rfl Zz rfl) rfl ?_; refine zq (p_loadB (y := .val _) rfl wCnf_agg3 Zz rfl rfl rfl rfl) rfl ?_; refine zc (c_call rfl wCnf_isf89 ⟨_, _, rfl, Zz, rfl, ⟨_, _, rfl, Zz, rfl, rfl⟩⟩ (bad_spec (ls.getD i []) n (by omega))) rfl (zm1 rfl rfl rfl ?_); refine zq (p_extract rfl Zz rfl) rfl ?_; refine zq (p_extract rfl Zz rfl) rfl (zm2 rfl rfl rfl (zm2 rfl rfl rfl (snil (f_seq (f_region (zm1 rfl rfl rfl ?_)))))); refine zq (p_neq rfl Zz Zz) rfl (snil (f_cond rfl ?_ ?_))
            · intro hc5; (try simp only [bs] at hc5); refine f_seq (f_region (zm1 rfl rfl rfl (zm1 rfl rfl rfl ?_))); refine zq (p_build rfl wCnf_plc29 wCnf_zer29 (by decide) wCnf_zch29 ⟨_, _, _, rfl, rfl, rfl, Zz, ⟨_, _, _, rfl, rfl, rfl, Zz, rfl⟩⟩ rfl) rfl ?_; refine scons (r_storeS rfl wCnf_siz29 rfl rfl rfl Zz rfl Zz rfl rfl rfl rfl) (snil (f_ret ?_))
              refine ends_ret (res_eq (res1 rfl (res_cell (by rfl) rfl rfl wCnf_agg29 wCnf_siz29 rfl rfl)) ?_)
              rw [he, Sp.checkFrom, if_pos (by omega), if_neg (by omega), if_pos hc5]
              all_goals rfl
            · intro hc5; (try simp only [bs] at hc5); refine f_skip (f_nil ?_); show AWs _ _ _ _ _; refine f_region ?_; refine zq (p_add rfl Zz Zz (by omega)) rfl (zm1 rfl rfl rfl (snil ?_))
              refine f_back ⟨i + 1, ?_, ?_, le_ofL ⟨rfl, rfl, rfl, rfl, rfl, rfl, rfl, trivial⟩ rfl⟩
              · refine ⟨by omega, ?_⟩
                rw [he, Sp.checkFrom, if_pos (by omega), if_neg (by omega), if_neg (fun h => h hc5)]
              · omega
        · intro hc3; (try simp only [bs] at hc3); refine f_exit ?_; show AWs _ _ _ _ _; refine f_seq (f_region ?_); refine zq (p_build rfl wCnf_plc29 wCnf_zer29 (by decide) wCnf_zch29 rfl rfl) rfl ?_; refine scons (r_storeS rfl wCnf_siz29 rfl rfl rfl Zz rfl Zz rfl rfl rfl rfl) (snil (f_ret ?_))
          refine ends_ret (res_eq (res1 rfl (res_cell (by rfl) rfl rfl wCnf_agg29 wCnf_siz29 rfl rfl)) ?_)
          rw [he, Sp.checkFrom, if_neg (by omega)]
          all_goals rfl

theorem list_spec (l : List Int) (n : Int) (hn : 0 ≤ n ∧ n ≤ 4000000000000000000) :
    Spec Go.Proofs.Tryz.prog 73 [.val (ints l), iv n] (fault (Sp.listed n l).1 (Sp.listed n l).2) := by
  refine spec_of' Go.Proofs.Tryz.func73 rfl Go.Proofs.Tryz.ntmps73 rfl ?_
  refine f_seq ?_
  refine f_wf (.tmp 0) rfl (fun hwf => ?_) (by simp)
  have hlen : l.length ≤ 140737488355328 := hwf.1
  clear hwf
  have hat := Sp.wrong_at n l
  refine f_region ?_; refine scons (r_alloc (ob := 10004) rfl wCnf_zer29 rfl rfl rfl rfl rfl rfl) (snil (f_seq (f_seq (f_region (zm1 rfl rfl rfl (zm1 rfl rfl rfl ?_)))))); refine zc (c_call rfl wCnf_isf89 ⟨_, _, rfl, Zz, rfl, ⟨_, _, rfl, Zz, rfl, rfl⟩⟩ (bad_spec l n hn)) rfl (zm1 rfl rfl rfl ?_); refine zq (p_extract rfl Zz rfl) rfl ?_; refine zq (p_extract rfl Zz rfl) rfl (zm2 rfl rfl rfl (zm2 rfl rfl rfl (snil (f_seq (f_region (zm1 rfl rfl rfl ?_)))))); refine zq (p_neq rfl Zz Zz) rfl (snil (f_cond rfl ?_ ?_))
  · intro hc1; (try simp only [bs] at hc1); refine f_seq (f_region (zm1 rfl rfl rfl (zm1 rfl rfl rfl ?_))); refine zq (p_sub rfl Zz Zz (by omega)) rfl ?_; refine zq (p_build rfl wCnf_plc29 wCnf_zer29 (by decide) wCnf_zch29 ⟨_, _, _, rfl, rfl, rfl, Zz, ⟨_, _, _, rfl, rfl, rfl, Zz, rfl⟩⟩ rfl) rfl ?_; refine scons (r_storeS rfl wCnf_siz29 rfl rfl rfl Zz rfl Zz rfl rfl rfl rfl) (snil (f_ret ?_))
    refine ends_ret (res_eq (res1 rfl (res_cell (by rfl) rfl rfl wCnf_agg29 wCnf_siz29 rfl rfl)) ?_)
    rw [Sp.listed, if_pos hc1]
    all_goals rfl
  · intro hc1; (try simp only [bs] at hc1); refine f_skip (f_seq (f_region ?_)); refine zq (p_build rfl wCnf_plc29 wCnf_zer29 (by decide) wCnf_zch29 rfl rfl) rfl ?_; refine scons (r_storeS rfl wCnf_siz29 rfl rfl rfl Zz rfl Zz rfl rfl rfl rfl) (snil (f_ret ?_))
    refine ends_ret (res_eq (res1 rfl (res_cell (by rfl) rfl rfl wCnf_agg29 wCnf_siz29 rfl rfl)) ?_)
    rw [Sp.listed, if_neg (fun h => h hc1)]
    all_goals rfl

end Go.Um
