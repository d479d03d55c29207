/- Walks of Go functions of this seat, each by its contract. No condition beyond what each theorem says. -/
import Derived.Test.YtpjenbbalengoaaWBet2
import Derived.Test.YtpjenbbalengoaaProg
import Derived.KernelRfl
set_option maxRecDepth 4000
namespace Go.Um
open Go Go.RowKit

theorem wBet3_agg141 : IsAgg Go.Proofs.Try.prog 141 false := by unfold IsAgg; kernel_rfl
theorem wBet3_agg171 : IsAgg Go.Proofs.Try.prog 171 true := by unfold IsAgg; kernel_rfl
theorem wBet3_agg26 : IsAgg Go.Proofs.Try.prog 26 true := by unfold IsAgg; kernel_rfl
theorem wBet3_agg3 : IsAgg Go.Proofs.Try.prog 3 false := by unfold IsAgg; kernel_rfl
theorem wBet3_agg33 : IsAgg Go.Proofs.Try.prog 33 false := by unfold IsAgg; kernel_rfl
theorem wBet3_agg37 : IsAgg Go.Proofs.Try.prog 37 false := by unfold IsAgg; kernel_rfl
theorem wBet3_agg39 : IsAgg Go.Proofs.Try.prog 39 true := by unfold IsAgg; kernel_rfl
theorem wBet3_agg67 : IsAgg Go.Proofs.Try.prog 67 true := by unfold IsAgg; kernel_rfl
theorem wBet3_byt141 : Bytes Go.Proofs.Try.prog 141 24 := by unfold Bytes; kernel_rfl
theorem wBet3_fld171_0 : IsField Go.Proofs.Try.prog 171 0 0 3 := by unfold IsField; kernel_rfl
theorem wBet3_fld171_1 : IsField Go.Proofs.Try.prog 171 1 1 3 := by unfold IsField; kernel_rfl
theorem wBet3_fld171_2 : IsField Go.Proofs.Try.prog 171 2 2 3 := by unfold IsField; kernel_rfl
theorem wBet3_fld26_0 : IsField Go.Proofs.Try.prog 26 0 0 3 := by unfold IsField; kernel_rfl
theorem wBet3_fld39_0 : IsField Go.Proofs.Try.prog 39 0 0 3 := by unfold IsField; kernel_rfl
theorem wBet3_fld39_1 : IsField Go.Proofs.Try.prog 39 1 1 37 := by unfold IsField; kernel_rfl
theorem wBet3_isf127 : IsFn Go.Proofs.Try.prog 127 := by unfold IsFn; kernel_rfl
theorem wBet3_isf128 : IsFn Go.Proofs.Try.prog 128 := by unfold IsFn; kernel_rfl
theorem wBet3_isf129 : IsFn Go.Proofs.Try.prog 129 := by unfold IsFn; kernel_rfl
theorem wBet3_isf82 : IsFn Go.Proofs.Try.prog 82 := by unfold IsFn; kernel_rfl
theorem wBet3_isf93 : IsFn Go.Proofs.Try.prog 93 := by unfold IsFn; kernel_rfl
theorem wBet3_isl167 : IsSlice Go.Proofs.Try.prog 167 141 := by unfold IsSlice; kernel_rfl
theorem wBet3_isl206 : IsSlice Go.Proofs.Try.prog 206 37 := by unfold IsSlice; kernel_rfl
theorem wBet3_isl33 : IsSlice Go.Proofs.Try.prog 33 3 := by unfold IsSlice; kernel_rfl
theorem wBet3_isl37 : IsSlice Go.Proofs.Try.prog 37 33 := by unfold IsSlice; kernel_rfl
theorem wBet3_isl63 : IsSlice Go.Proofs.Try.prog 63 171 := by unfold IsSlice; kernel_rfl
theorem wBet3_mix : (Go.Proofs.Try.prog).follows .mixedOrders = true := by kernel_rfl
theorem wBet3_plc130 : Places Go.Proofs.Try.prog 130 [(0, 2), (2, 2)] := by unfold Places; kernel_rfl
theorem wBet3_plc136 : Places Go.Proofs.Try.prog 136 [(0, 2), (2, 2)] := by unfold Places; kernel_rfl
theorem wBet3_plc26 : Places Go.Proofs.Try.prog 26 [(0, 1), (1, 1)] := by unfold Places; kernel_rfl
theorem wBet3_plc39 : Places Go.Proofs.Try.prog 39 [(0, 1), (1, 1)] := by unfold Places; kernel_rfl
theorem wBet3_plc67 : Places Go.Proofs.Try.prog 67 [(0, 1), (1, 1)] := by unfold Places; kernel_rfl
theorem wBet3_siz141 : Size Go.Proofs.Try.prog 141 1 := by unfold Size; kernel_rfl
theorem wBet3_siz171 : Size Go.Proofs.Try.prog 171 3 := by unfold Size; kernel_rfl
theorem wBet3_siz26 : Size Go.Proofs.Try.prog 26 2 := by unfold Size; kernel_rfl
theorem wBet3_siz3 : Size Go.Proofs.Try.prog 3 1 := by unfold Size; kernel_rfl
theorem wBet3_siz33 : Size Go.Proofs.Try.prog 33 1 := by unfold Size; kernel_rfl
theorem wBet3_siz37 : Size Go.Proofs.Try.prog 37 1 := by unfold Size; kernel_rfl
theorem wBet3_siz39 : Size Go.Proofs.Try.prog 39 2 := by unfold Size; kernel_rfl
theorem wBet3_siz67 : Size Go.Proofs.Try.prog 67 2 := by unfold Size; kernel_rfl
def wBet3_z26 : D := .cons (.int .i64 0) (.cons (.int .i64 0) (.nil))
theorem wBet3_zch26 : ∀ (ok : Nat → Prop) (w : World), R Go.Proofs.Try.prog wBet3_z26 ok w (Value.cells (.agg #[(.int .i64 0), (.int .i64 0)])).toList := fun _ _ => z_int (z_int (z_nil))
def wBet3_z39 : D := .cons (.int .i64 0) (.cons (intss []) (.nil))
theorem wBet3_zch39 : ∀ (ok : Nat → Prop) (w : World), R Go.Proofs.Try.prog wBet3_z39 ok w (Value.cells (.agg #[(.int .i64 0), (.slice none 0 0)])).toList := fun _ _ => z_int (z_list (z_nil))
def wBet3_z67 : D := .cons (chos []) (.cons (.int .i64 0) (.nil))
theorem wBet3_zch67 : ∀ (ok : Nat → Prop) (w : World), R Go.Proofs.Try.prog wBet3_z67 ok w (Value.cells (.agg #[(.slice none 0 0), (.int .i64 0)])).toList := fun _ _ => z_list (z_int (z_nil))
theorem wBet3_zer130 : Zero Go.Proofs.Try.prog 130 (.agg #[(.int .i64 0), (.slice none 0 0), (.int .i64 0), (.slice none 0 0)]) := by unfold Zero; kernel_rfl
theorem wBet3_zer136 : Zero Go.Proofs.Try.prog 136 (.agg #[(.int .i64 0), (.slice none 0 0), (.int .i64 0), (.slice none 0 0)]) := by unfold Zero; kernel_rfl
theorem wBet3_zer141 : Zero Go.Proofs.Try.prog 141 (.slice none 0 0) := by unfold Zero; kernel_rfl
theorem wBet3_zer171 : Zero Go.Proofs.Try.prog 171 (.agg #[(.int .i64 0), (.int .i64 0), (.int .i64 0)]) := by unfold Zero; kernel_rfl
theorem wBet3_zer26 : Zero Go.Proofs.Try.prog 26 (.agg #[(.int .i64 0), (.int .i64 0)]) := by unfold Zero; kernel_rfl
theorem wBet3_zer37 : Zero Go.Proofs.Try.prog 37 (.slice none 0 0) := by unfold Zero; kernel_rfl
theorem wBet3_zer39 : Zero Go.Proofs.Try.prog 39 (.agg #[(.int .i64 0), (.slice none 0 0)]) := by unfold Zero; kernel_rfl
theorem wBet3_zer67 : Zero Go.Proofs.Try.prog 67 (.agg #[(.slice none 0 0), (.int .i64 0)]) := by unfold Zero; kernel_rfl

/-- What the methods of a system of interpolants come to. -/
structure Meths (P : Program) (e : Bool) (T F1 F2 F3 : Nat) (n : Int) (a : List (List Int)) (m : Int) (b : List (List Int)) : Prop where
  m1 : IsMeth P T "umpirage/between.first" F1
  f1 : IsFn P F1
  s1 : ∀ k : Nat, n = k → m = k → k ≤ 16 → ∀ c, Sp.Good k c → Spec P F1 [.val (.agg (.cons (di n) (.cons (intss a) (.cons (di m) (.cons (intss b) .nil))))), .val (ints c)] (bytes (Sp.btab (Sp.sysF e b c) k))
  m2 : IsMeth P T "umpirage/between.second" F2
  f2 : IsFn P F2
  s2 : ∀ k : Nat, n = k → m = k → k ≤ 16 → Spec P F2 [.val (.agg (.cons (di n) (.cons (intss a) (.cons (di m) (.cons (intss b) .nil)))))] (bytes (Sp.btab (fun _ => true) k))
  m3 : IsMeth P T "umpirage/between.both" F3
  f3 : IsFn P F3
  n3 : NotAhead P T "umpirage/between.both"
  s3 : ∀ k : Nat, n = k → m = k → k ≤ 16 → ∀ (v : Int) (p q : Sp.Prd), 1 ≤ v ∧ v ≤ k → Spec P F3 [.val (.agg (.cons (di n) (.cons (intss a) (.cons (di m) (.cons (intss b) .nil))))), iv v, .val (bytes (Sp.btab p k)), .val (bytes (Sp.btab q k))] (bytes (Sp.btab (Sp.sysB e a b v p q) k))

set_option maxHeartbeats 1000000 in
theorem take_specV (e : Bool) (T F1 F2 F3 : Nat) (n : Int) (a : List (List Int)) (m : Int) (b : List (List Int)) (l : List Sp.Rs) (hM : Meths Go.Proofs.Try.prog e T F1 F2 F3 n a m b) (vs : Value) :
    Spec Go.Proofs.Try.prog 82 [.val (cnf n a), .val (cnf m b), .val (chos l), .both vs (.val (.ifc T (.agg (.cons (di n) (.cons (intss a) (.cons (di m) (.cons (intss b) .nil)))))))] (two (dia (Sp.takO e n a m b l).1 (Sp.takO e n a m b l).2.1) (fault (Sp.takO e n a m b l).2.2.1 (Sp.takO e n a m b l).2.2.2)) := by
  refine spec_of' Go.Proofs.Try.func82 rfl Go.Proofs.Try.ntmps82 rfl ?_
  refine f_seq ?_
  refine f_wf (.tmp 2) rfl (fun hwf => ?_) (by simp)
  have hlen : l.length ≤ 140737488355328 := hwf.1
  clear hwf
  refine f_region ?_
  refine scons (r_box (ob := 10004) rfl (Sees.of rfl) rfl rfl rfl rfl rfl rfl) ?_
  refine scons (r_box (ob := 10005) rfl (Sees.of rfl) rfl rfl rfl rfl rfl rfl) ?_
  refine scons (r_alloc (ob := 10008) rfl wBet3_zer67 rfl rfl rfl rfl rfl rfl) ?_
  refine scons (r_alloc (ob := 10009) rfl wBet3_zer26 rfl rfl rfl rfl rfl rfl) ?_
  refine snil ?_
  refine f_seq ?_
  refine f_seq ?_
  refine f_region ?_
  refine scons (CStep.step (PStep.c (p_loadBS rfl wBet3_agg39 wBet3_siz39 (Sees.of rfl) rfl rfl rfl)) rfl rfl rfl rfl) ?_
  refine scons (CStep.step (PStep.c (p_loadBS rfl wBet3_agg39 wBet3_siz39 (Sees.of rfl) rfl rfl rfl)) rfl rfl rfl rfl) ?_
  refine scons (CStep.step (c_call rfl wBet3_isf127 ⟨_, _, rfl, (Sees.of rfl), rfl, ⟨_, _, rfl, (Sees.of rfl), rfl, rfl⟩⟩ (betC_spec n a m b)) rfl rfl rfl rfl) ?_
  refine scons (r_alloc (ob := 10010) rfl wBet3_zer26 rfl rfl rfl rfl rfl rfl) ?_
  refine scons (r_storeS rfl wBet3_siz26 rfl rfl rfl (Sees.of rfl) rfl (Sees.of rfl) rfl rfl rfl rfl) ?_
  refine snil ?_
  refine f_seq ?_
  refine f_region ?_
  refine scons (CStep.step (PStep.c (p_fieldRef rfl wBet3_fld26_0 wBet3_siz3 rfl (Sees.of rfl) rfl)) rfl rfl rfl rfl) ?_
  refine scons (CStep.step (PStep.c (p_loadB (y := .val _) rfl wBet3_agg3 (Sees.of rfl) rfl rfl rfl rfl)) rfl rfl rfl rfl) ?_
  refine scons (CStep.step (PStep.c (p_neq rfl (Sees.of rfl) (Sees.of rfl))) rfl rfl rfl rfl) ?_
  refine snil ?_
  refine f_cond rfl ?_ ?_
  · intro hc1
    try simp only [bs] at hc1
    refine f_seq ?_
    refine f_draw wBet3_mix (by kernel_rfl) ?_
    refine dcons (CStep.step (PStep.c (p_build rfl wBet3_plc67 wBet3_zer67 (by decide) wBet3_zch67 rfl rfl)) rfl rfl rfl rfl) ?_
    refine dcons (CStep.step (PStep.c (p_loadBS rfl wBet3_agg26 wBet3_siz26 (Sees.of rfl) rfl rfl rfl)) rfl rfl rfl rfl) ?_
    refine dcons (r_storeS rfl wBet3_siz67 rfl rfl rfl (Sees.of rfl) rfl (Sees.of rfl) rfl rfl rfl rfl) ?_
    refine dcons (r_storeS rfl wBet3_siz26 rfl rfl rfl (Sees.of rfl) rfl (Sees.of rfl) rfl rfl rfl rfl) ?_
    refine dnil (by kernel_rfl) ?_
    refine f_ret ?_
    refine ends_ret (res_eq (res2 rfl (res_cell (by rfl) rfl rfl wBet3_agg67 wBet3_siz67 rfl rfl) (res_cell (by rfl) rfl rfl wBet3_agg26 wBet3_siz26 rfl rfl)) ?_)
    rw [Sp.takO, if_pos hc1]
    all_goals rfl
  · intro hc1
    try simp only [bs] at hc1
    obtain ⟨k, rfl, rfl, hk, hca, hcb, hlab⟩ := Sp.bet_ok hc1
    have hga := (Sp.check_use hca).1
    have hgb := (Sp.check_use hcb).1
    have hro := Sp.resO_eq (l := l) (Sp.check_app hca hcb hlab)
    refine f_skip ?_
    refine f_seq ?_
    refine f_draw wBet3_mix (by kernel_rfl) ?_
    refine dcons (CStep.step (PStep.c (p_fieldRef rfl wBet3_fld39_0 wBet3_siz3 rfl (Sees.of rfl) rfl)) rfl rfl rfl rfl) ?_
    refine dcons (CStep.step (PStep.c (p_loadB (y := .val _) rfl wBet3_agg3 (Sees.of rfl) rfl rfl rfl rfl)) rfl rfl rfl rfl) ?_
    refine dcons (CStep.step (PStep.c (p_fieldRef rfl wBet3_fld39_1 wBet3_siz37 rfl (Sees.of rfl) rfl)) rfl rfl rfl rfl) ?_
    refine dcons (CStep.step (PStep.c (p_loadB (y := .val _) rfl wBet3_agg37 (Sees.of rfl) rfl rfl rfl rfl)) rfl rfl rfl rfl) ?_
    refine dcons (CStep.step (PStep.c (p_fieldRef rfl wBet3_fld39_1 wBet3_siz37 rfl (Sees.of rfl) rfl)) rfl rfl rfl rfl) ?_
    refine dcons (CStep.step (PStep.c (p_loadB (y := .val _) rfl wBet3_agg37 (Sees.of rfl) rfl rfl rfl rfl)) rfl rfl rfl rfl) ?_
    refine dcons (CStep.step (c_buildSlice (f := intss) (za := []) (xs := [.tmp 30, .tmp 32]) rfl rfl wBet3_isl206 wBet3_siz37 wBet3_zer37 rfl rfl ⟨_, _, rfl, (Sees.of rfl), rfl, rfl, ⟨_, _, rfl, (Sees.of rfl), rfl, rfl, rfl⟩⟩) rfl rfl rfl rfl) ?_
    refine dcons (CStep.step (c_call rfl wBet3_isf129 ⟨_, _, rfl, (Sees.of rfl), rfl, rfl⟩ ((concatII2 a b (by omega)).spec [])) rfl rfl rfl rfl) ?_
    refine dcons (CStep.step (PStep.c (p_build rfl wBet3_plc39 wBet3_zer39 (by decide) wBet3_zch39 ⟨_, _, _, rfl, rfl, rfl, (Sees.of rfl), ⟨_, _, _, rfl, rfl, rfl, (Sees.of rfl), rfl⟩⟩ rfl)) rfl rfl rfl rfl) ?_
    refine dcons (CStep.step (PStep.c (p_move (y := .val _) rfl (Sees.of rfl) rfl)) rfl rfl rfl rfl) ?_
    refine dcons (CStep.step (c_call rfl wBet3_isf128 ⟨_, _, rfl, (Sees.of rfl), rfl, ⟨_, _, rfl, (Sees.of rfl), rfl, rfl⟩⟩ (resCheck_spec k (a ++ b) l)) rfl rfl rfl rfl) ?_
    refine dcons (CStep.step (PStep.c (p_move (y := .val _) rfl (Sees.of rfl) rfl)) rfl rfl rfl rfl) ?_
    refine dcons (CStep.step (PStep.c (p_extract rfl (Sees.of rfl) rfl)) rfl rfl rfl rfl) ?_
    refine dcons (CStep.step (PStep.c (p_extract rfl (Sees.of rfl) rfl)) rfl rfl rfl rfl) ?_
    refine dcons (r_alloc (ob := 10012) rfl wBet3_zer26 rfl rfl rfl rfl rfl rfl) ?_
    refine dcons (CStep.step (PStep.c (p_assign (y := .val _) rfl (Sees.of rfl) rfl)) rfl rfl rfl rfl) ?_
    refine dcons (r_storeS rfl wBet3_siz26 rfl rfl rfl (Sees.of rfl) rfl (Sees.of rfl) rfl rfl rfl rfl) ?_
    refine dnil (by kernel_rfl) ?_
    refine f_seq ?_
    refine f_seq ?_
    refine f_region ?_
    refine scons (CStep.step (PStep.c (p_fieldRef rfl wBet3_fld26_0 wBet3_siz3 rfl (Sees.of rfl) rfl)) rfl rfl rfl rfl) ?_
    refine scons (CStep.step (PStep.c (p_loadB (y := .val _) rfl wBet3_agg3 (Sees.of rfl) rfl rfl rfl rfl)) rfl rfl rfl rfl) ?_
    refine scons (CStep.step (PStep.c (p_neq rfl (Sees.of rfl) (Sees.of rfl))) rfl rfl rfl rfl) ?_
    refine snil ?_
    refine f_cond rfl ?_ ?_
    · intro hc2
      try simp only [bs] at hc2
      refine f_seq ?_
      refine f_draw wBet3_mix (by kernel_rfl) ?_
      refine dcons (CStep.step (PStep.c (p_build rfl wBet3_plc67 wBet3_zer67 (by decide) wBet3_zch67 rfl rfl)) rfl rfl rfl rfl) ?_
      refine dcons (CStep.step (PStep.c (p_loadBS rfl wBet3_agg26 wBet3_siz26 (Sees.of rfl) rfl rfl rfl)) rfl rfl rfl rfl) ?_
      refine dcons (r_storeS rfl wBet3_siz67 rfl rfl rfl (Sees.of rfl) rfl (Sees.of rfl) rfl rfl rfl rfl) ?_
      refine dcons (r_storeS rfl wBet3_siz26 rfl rfl rfl (Sees.of rfl) rfl (Sees.of rfl) rfl rfl rfl rfl) ?_
      refine dnil (by kernel_rfl) ?_
      refine f_ret ?_
      refine ends_ret (res_eq (res2 rfl (res_cell (by rfl) rfl rfl wBet3_agg67 wBet3_siz67 rfl rfl) (res_cell (by rfl) rfl rfl wBet3_agg26 wBet3_siz26 rfl rfl)) ?_)
      rw [Sp.takO, if_neg (fun h => h hc1), if_pos hc2]
      all_goals rfl
    · intro hc2
      try simp only [bs] at hc2
      obtain ⟨hl2, hfz, hre⟩ := Sp.resR_ok (by rw [← hro]; exact hc2)
      have hrel := congrArg (fun q => q.1.length) hre
      simp only [List.length_drop] at hrel
      rw [← hro, Sp.resTo_len _ (Nat.le_refl _)] at hrel
      have hrel2 : (Sp.resO k (a ++ b) l).1.length = l.length := by omega
      have htn : ((l.length : Int) - 1).toNat = l.length - 1 := by omega
      refine f_skip ?_
      refine f_seq ?_
      refine f_seq ?_
      refine f_region ?_
      refine scons (CStep.step (PStep.c (p_move (y := .val _) rfl (Sees.of rfl) rfl)) rfl rfl rfl rfl) ?_
      refine scons (CStep.step (PStep.c (p_len rfl wBet3_isl63 (Sees.of rfl))) rfl rfl rfl rfl) ?_
      refine scons (CStep.step (PStep.c (p_eql rfl (Sees.of rfl) (Sees.of rfl))) rfl rfl rfl rfl) ?_
      refine scons (CStep.step (PStep.c (p_move (y := .val _) rfl (Sees.of rfl) rfl)) rfl rfl rfl rfl) ?_
      refine scons (CStep.guard rfl rfl rfl (fun hg0 => PStep.c (p_move (y := .val _) rfl (Sees.of rfl) rfl)) rfl rfl rfl rfl rfl) ?_
      refine scons (CStep.guard rfl rfl rfl (fun hg0 => PStep.c (p_move (y := .val _) rfl (Sees.of rfl) rfl)) rfl rfl rfl rfl rfl) ?_
      refine scons (CStep.guard rfl rfl rfl (fun hg0 => PStep.c (p_len rfl wBet3_isl63 (Sees.gv' rfl hg0))) rfl rfl rfl rfl rfl) ?_
      refine scons (CStep.guard rfl rfl rfl (fun hg0 => by have hp0 := hg0; (try simp only [bs] at hp0); exact PStep.c (p_sub rfl (Sees.gv' rfl hg0) (Sees.of rfl) (by omega))) rfl rfl rfl rfl rfl) ?_
      refine scons (CStep.guard rfl rfl rfl (fun hg0 => by have hp0 := hg0; (try simp only [bs] at hp0); exact PStep.c ((by first | exact p_indexN rfl wBet3_isl37 wBet3_siz33 (Sees.gv' rfl hg0) (Sees.gv' rfl hg0) (by omega) | exact p_index rfl wBet3_isl37 wBet3_siz33 (Sees.gv' rfl hg0) (Sees.gv' rfl hg0) (by omega) (by omega)))) rfl rfl rfl rfl rfl) ?_
      refine scons (CStep.guard rfl rfl rfl (fun hg0 => PStep.c (p_load rfl wBet3_agg33 (Sees.gv' rfl hg0) rfl)) rfl rfl rfl rfl rfl) ?_
      refine scons (CStep.guard rfl rfl rfl (fun hg0 => PStep.c (p_len rfl wBet3_isl33 (Sees.gv' rfl hg0))) rfl rfl rfl rfl rfl) ?_
      refine scons (CStep.guard rfl rfl rfl (fun hg0 => PStep.c (p_gtr rfl (Sees.gv' rfl hg0) (Sees.of rfl))) rfl rfl rfl rfl rfl) ?_
      refine scons (CStep.step (PStep.c (p_or rfl (Sees.of rfl) (Sees.of rfl) (fun h => Sees.gv' rfl (beq_of_eq h)))) rfl rfl rfl rfl) ?_
      refine snil ?_
      refine f_cond rfl ?_ ?_
      · intro hc3
        try simp only [bs] at hc3
        refine f_seq ?_
        refine f_region ?_
        refine scons (CStep.step (PStep.c (p_build rfl wBet3_plc67 wBet3_zer67 (by decide) wBet3_zch67 rfl rfl)) rfl rfl rfl rfl) ?_
        refine scons (CStep.step (PStep.c (p_build rfl wBet3_plc26 wBet3_zer26 (by decide) wBet3_zch26 ⟨_, _, _, rfl, rfl, rfl, (Sees.of rfl), rfl⟩ rfl)) rfl rfl rfl rfl) ?_
        refine scons (r_storeS rfl wBet3_siz67 rfl rfl rfl (Sees.of rfl) rfl (Sees.of rfl) rfl rfl rfl rfl) ?_
        refine scons (r_storeS rfl wBet3_siz26 rfl rfl rfl (Sees.of rfl) rfl (Sees.of rfl) rfl rfl rfl rfl) ?_
        refine snil ?_
        refine f_ret ?_
        refine ends_ret (res_eq (res2 rfl (res_cell (by rfl) rfl rfl wBet3_agg67 wBet3_siz67 rfl rfl) (res_cell (by rfl) rfl rfl wBet3_agg26 wBet3_siz26 rfl rfl)) ?_)
        simp only [htn] at hc3
        rw [Sp.takO, if_neg (fun h => h hc1), if_neg (fun h => h hc2), if_pos (by omega)]
        all_goals rfl
      · intro hc3
        try simp only [bs] at hc3
        simp only [htn] at hc3
        have hpw : (Sp.prfW k a k b l).1 = 0 := by
          rw [Sp.prfW, if_neg (fun h => h hc1), if_neg (by rw [← hro]; exact fun h => h hc2), ← hro, if_neg (by omega)]
        obtain ⟨_, hkk, _, hpf⟩ := Sp.prf_of hpw
        obtain rfl := Int.ofNat.inj hkk
        refine f_skip ?_
        refine f_seq ?_
        refine f_region ?_
        refine scons (CStep.step (PStep.c (p_assign (y := .emp) rfl (Sees.of rfl) rfl)) rfl rfl rfl rfl) ?_
        refine snil ?_
        refine f_seq ?_
        refine f_seq ?_
        refine f_region ?_
        refine scons (CStep.step (PStep.c (p_fieldRef rfl wBet3_fld39_1 wBet3_siz37 rfl (Sees.of rfl) rfl)) rfl rfl rfl rfl) ?_
        refine scons (CStep.step (PStep.c (p_loadB (y := .val _) rfl wBet3_agg37 (Sees.of rfl) rfl rfl rfl rfl)) rfl rfl rfl rfl) ?_
        refine scons (CStep.step (PStep.c (p_len rfl wBet3_isl37 (Sees.of rfl))) rfl rfl rfl rfl) ?_
        refine scons (CStep.step (PStep.c (p_move (y := .val _) rfl (Sees.of rfl) rfl)) rfl rfl rfl rfl) ?_
        refine snil ?_
        refine f_block ?_
        refine f_loop (α := Nat × Nat) (fun (i, u) => i ≤ a.length) (fun (i, u) => [(63, iv i), (13, .row 30000 u), (30000, .arr u 141 1 24 (fun p : Sp.Prd => bytes (Sp.btab p k)) Sp.pf ((a.take i).map (Sp.sysF e b))), (4, .ref 10004 0 0), (10004, .box 0 (.ccons (iv k) (.ccons (.val (intss a)) .cnil))), (5, .ref 10005 0 0), (10005, .box 0 (.ccons (iv k) (.ccons (.val (intss b)) .cnil))), (2, .val (chos l)), (3, .both vs (.val (.ifc T (.agg (.cons (di (k : Int)) (.cons (intss a) (.cons (di (k : Int)) (.cons (intss b) .nil)))))))), (8, .ref 10008 0 0), (9, .ref 10009 0 0), (61, .val (intss a)), (62, iv a.length), (10008, .box 0 (.ccons (.emp) (.ccons (iv 0) .cnil))), (10009, .box 0 (.ccons (iv 0) (.ccons (iv 0) .cnil)))]) (fun (i, u) => a.length - i) (0, 0) ?_ ?_ ?_
        · exact Nat.zero_le _
        · exact Le.trans (GLe.le (g_adopt (ob := 30000) (k := 13) 141 1 24 (fun p : Sp.Prd => bytes (Sp.btab p k)) Sp.pf rfl rfl rfl rfl)) (le_ofL ⟨rfl, rfl, rfl, rfl, rfl, rfl, rfl, rfl, rfl, rfl, rfl, rfl, rfl, rfl, rfl, trivial⟩ rfl)
        · rintro ⟨i, u⟩ hi
          have hi : i ≤ a.length := hi
          refine f_seq ?_
          refine f_region ?_
          refine scons (CStep.step (PStep.c (p_lss rfl (Sees.of rfl) (Sees.of rfl))) rfl rfl rfl rfl) ?_
          refine snil ?_
          refine f_seq ?_
          refine f_cond rfl ?_ ?_
          · intro hc4
            try simp only [bs] at hc4
            refine f_skip ?_
            refine f_seq ?_
            refine f_block ?_
            refine f_seq ?_
            refine f_region ?_
            refine scons (CStep.step (PStep.c ((by first | exact p_indexN rfl wBet3_isl37 wBet3_siz33 (Sees.of rfl) (Sees.of rfl) (by omega) | exact p_index rfl wBet3_isl37 wBet3_siz33 (Sees.of rfl) (Sees.of rfl) (by omega) (by omega)))) rfl rfl rfl rfl) ?_
            refine scons (CStep.step (PStep.c (p_load rfl wBet3_agg33 (Sees.of rfl) rfl)) rfl rfl rfl rfl) ?_
            refine scons (CStep.step (PStep.c (p_assign (y := .val _) rfl (Sees.of rfl) rfl)) rfl rfl rfl rfl) ?_
            refine snil ?_
            have hgai := hga _ (Sp.getD_mem a i [] (by omega))
            refine f_region ?_
            refine scons (CStep.step (PStep.c (p_move (y := .row _ _) rfl (Sees.of rfl) rfl)) rfl rfl rfl rfl) ?_
            refine scons (CStep.step (PStep.c (p_move (y := .both _ _) rfl (Sees.of rfl) rfl)) rfl rfl rfl rfl) ?_
            refine scons (CStep.step (PStep.c (p_move (y := .val _) rfl (Sees.of rfl) rfl)) rfl rfl rfl rfl) ?_
            refine scons (CStep.step (c_invoke rfl (hM.m1) (hM.f1) (Sees.snd rfl) ⟨_, _, rfl, (Sees.of rfl), rfl, rfl⟩ (hM.s1 k rfl rfl hk (a.getD i []) hgai)) rfl rfl rfl rfl) ?_
            refine scons (CStep.step (c_buildSlice (f := (fun p : Sp.Prd => bytes (Sp.btab p k))) (za := Sp.pf) (xs := [.tmp 70]) rfl rfl wBet3_isl167 wBet3_siz141 wBet3_zer141 rfl rfl ⟨_, _, rfl, (Sees.of rfl), rfl, rfl, rfl⟩) rfl rfl rfl rfl) ?_
            refine scons (r_appendR (ob := 30000) rfl wBet3_isl167 wBet3_siz141 wBet3_byt141 wBet3_zer141 rfl rfl (Sees.of rfl) rfl (Sees.of rfl) (by simp only [List.length_map, List.length_take, List.length_cons, List.length_nil]; omega) (by simp only [List.length_map, List.length_take, List.length_cons, List.length_nil]; omega) rfl rfl rfl rfl rfl) ?_
            refine scons (CStep.step (PStep.c (p_assign (y := .row _ _) rfl (Sees.of rfl) rfl)) rfl rfl rfl rfl) ?_
            refine snil ?_
            refine f_nil ?_
            show AWs _ _ _ _ _
            refine f_region ?_
            refine scons (CStep.step (PStep.c (p_add rfl (Sees.of rfl) (Sees.of rfl) (by omega))) rfl rfl rfl rfl) ?_
            refine scons (CStep.step (PStep.c (p_move (y := .val _) rfl (Sees.of rfl) rfl)) rfl rfl rfl rfl) ?_
            refine snil ?_
            refine f_back ⟨(i + 1, u + 1), ?_, ?_, le_ofL ⟨rfl, rfl, (by rw [Sp.take_getD a i [] (by omega), List.map_append]; rfl), rfl, rfl, rfl, rfl, rfl, rfl, rfl, rfl, rfl, rfl, rfl, rfl, trivial⟩ rfl⟩
            · show i + 1 ≤ _
              omega
            · show _ - (i + 1) < _ - i
              omega
          · intro hc4
            try simp only [bs] at hc4
            refine f_exit ?_
            show AWs _ _ _ _ _
            refine f_seq ?_
            refine f_seq ?_
            refine f_region ?_
            refine scons (CStep.step (PStep.c (p_fieldRef rfl wBet3_fld39_1 wBet3_siz37 rfl (Sees.of rfl) rfl)) rfl rfl rfl rfl) ?_
            refine scons (CStep.step (PStep.c (p_loadB (y := .val _) rfl wBet3_agg37 (Sees.of rfl) rfl rfl rfl rfl)) rfl rfl rfl rfl) ?_
            refine scons (CStep.step (PStep.c (p_len rfl wBet3_isl37 (Sees.of rfl))) rfl rfl rfl rfl) ?_
            refine scons (CStep.step (PStep.c (p_move (y := .val _) rfl (Sees.of rfl) rfl)) rfl rfl rfl rfl) ?_
            refine snil ?_
            refine f_block ?_
            refine f_loop (α := Nat × Nat) (fun (i, u) => i ≤ b.length) (fun (i, u) => [(77, iv i), (13, .row 30000 u), (30000, .arr u 141 1 24 (fun p : Sp.Prd => bytes (Sp.btab p k)) Sp.pf (a.map (Sp.sysF e b) ++ (b.take i).map fun _ => fun _ => true)), (4, .ref 10004 0 0), (10004, .box 0 (.ccons (iv k) (.ccons (.val (intss a)) .cnil))), (5, .ref 10005 0 0), (10005, .box 0 (.ccons (iv k) (.ccons (.val (intss b)) .cnil))), (2, .val (chos l)), (3, .both vs (.val (.ifc T (.agg (.cons (di (k : Int)) (.cons (intss a) (.cons (di (k : Int)) (.cons (intss b) .nil)))))))), (8, .ref 10008 0 0), (9, .ref 10009 0 0), (76, iv b.length), (10008, .box 0 (.ccons (.emp) (.ccons (iv 0) .cnil))), (10009, .box 0 (.ccons (iv 0) (.ccons (iv 0) .cnil)))]) (fun (i, u) => b.length - i) (0, u) ?_ ?_ ?_
            · exact Nat.zero_le _
            · exact le_ofL ⟨rfl, rfl, (by rw [show (a.map (Sp.sysF e b) ++ (b.take 0).map fun _ => fun _ => true) = ((a.take i).map (Sp.sysF e b)) from by rw [List.take_of_length_le (l := a) (by omega)]; simp]; rfl), rfl, rfl, rfl, rfl, rfl, rfl, rfl, rfl, rfl, rfl, rfl, trivial⟩ rfl
            · rintro ⟨i, u⟩ hi
              have hi : i ≤ b.length := hi
              refine f_seq ?_
              refine f_region ?_
              refine scons (CStep.step (PStep.c (p_lss rfl (Sees.of rfl) (Sees.of rfl))) rfl rfl rfl rfl) ?_
              refine snil ?_
              refine f_seq ?_
              refine f_cond rfl ?_ ?_
              · intro hc5
                try simp only [bs] at hc5
                refine f_skip ?_
                refine f_seq ?_
                refine f_block ?_
                refine f_region ?_
                refine scons (CStep.step (PStep.c (p_move (y := .row _ _) rfl (Sees.of rfl) rfl)) rfl rfl rfl rfl) ?_
                refine scons (CStep.step (PStep.c (p_move (y := .both _ _) rfl (Sees.of rfl) rfl)) rfl rfl rfl rfl) ?_
                refine scons (CStep.step (c_invoke rfl (hM.m2) (hM.f2) (Sees.snd rfl) rfl (hM.s2 k rfl rfl hk)) rfl rfl rfl rfl) ?_
                refine scons (CStep.step (c_buildSlice (f := (fun p : Sp.Prd => bytes (Sp.btab p k))) (za := Sp.pf) (xs := [.tmp 81]) rfl rfl wBet3_isl167 wBet3_siz141 wBet3_zer141 rfl rfl ⟨_, _, rfl, (Sees.of rfl), rfl, rfl, rfl⟩) rfl rfl rfl rfl) ?_
                refine scons (r_appendR (ob := 30000) rfl wBet3_isl167 wBet3_siz141 wBet3_byt141 wBet3_zer141 rfl rfl (Sees.of rfl) rfl (Sees.of rfl) (by simp only [List.length_append, List.length_map, List.length_take, List.length_cons, List.length_nil]; omega) (by simp only [List.length_append, List.length_map, List.length_take, List.length_cons, List.length_nil]; omega) rfl rfl rfl rfl rfl) ?_
                refine scons (CStep.step (PStep.c (p_assign (y := .row _ _) rfl (Sees.of rfl) rfl)) rfl rfl rfl rfl) ?_
                refine snil ?_
                refine f_nil ?_
                show AWs _ _ _ _ _
                refine f_region ?_
                refine scons (CStep.step (PStep.c (p_add rfl (Sees.of rfl) (Sees.of rfl) (by omega))) rfl rfl rfl rfl) ?_
                refine scons (CStep.step (PStep.c (p_move (y := .val _) rfl (Sees.of rfl) rfl)) rfl rfl rfl rfl) ?_
                refine snil ?_
                refine f_back ⟨(i + 1, u + 1), ?_, ?_, le_ofL ⟨rfl, rfl, (by rw [Sp.take_getD b i [] (by omega), List.map_append, ← List.append_assoc]; rfl), rfl, rfl, rfl, rfl, rfl, rfl, rfl, rfl, rfl, rfl, rfl, trivial⟩ rfl⟩
                · show i + 1 ≤ _
                  omega
                · show _ - (i + 1) < _ - i
                  omega
              · intro hc5
                try simp only [bs] at hc5
                refine f_exit ?_
                show AWs _ _ _ _ _
                refine f_seq ?_
                refine f_seq ?_
                refine f_region ?_
                refine scons (CStep.step (PStep.c (p_move (y := .val _) rfl (Sees.of rfl) rfl)) rfl rfl rfl rfl) ?_
                refine scons (CStep.step (PStep.c (p_len rfl wBet3_isl63 (Sees.of rfl))) rfl rfl rfl rfl) ?_
                refine scons (CStep.step (PStep.c (p_move (y := .val _) rfl (Sees.of rfl) rfl)) rfl rfl rfl rfl) ?_
                refine snil ?_
                refine f_block ?_
                refine f_loop (α := Nat × Nat) (fun (i, u) => i ≤ l.length) (fun (i, u) => [(87, iv i), (13, .row 30000 u), (30000, .arr u 141 1 24 (fun p : Sp.Prd => bytes (Sp.btab p k)) Sp.pf (Sp.prtTo e a b l i)), (4, .ref 10004 0 0), (10004, .box 0 (.ccons (iv k) (.ccons (.val (intss a)) .cnil))), (5, .ref 10005 0 0), (10005, .box 0 (.ccons (iv k) (.ccons (.val (intss b)) .cnil))), (3, .both vs (.val (.ifc T (.agg (.cons (di (k : Int)) (.cons (intss a) (.cons (di (k : Int)) (.cons (intss b) .nil)))))))), (8, .ref 10008 0 0), (9, .ref 10009 0 0), (85, .val (chos l)), (86, iv l.length), (10008, .box 0 (.ccons (.emp) (.ccons (iv 0) .cnil))), (10009, .box 0 (.ccons (iv 0) (.ccons (iv 0) .cnil)))]) (fun (i, u) => l.length - i) (0, u) ?_ ?_ ?_
                · exact Nat.zero_le _
                · exact le_ofL ⟨rfl, rfl, (by rw [show (Sp.prtTo e a b l 0) = (a.map (Sp.sysF e b) ++ (b.take i).map fun _ => fun _ => true) from by rw [List.take_of_length_le (l := b) (by omega)]; rfl]; rfl), rfl, rfl, rfl, rfl, rfl, rfl, rfl, rfl, rfl, rfl, rfl, trivial⟩ rfl
                · rintro ⟨i, u⟩ hi
                  have hi : i ≤ l.length := hi
                  refine f_seq ?_
                  refine f_region ?_
                  refine scons (CStep.step (PStep.c (p_lss rfl (Sees.of rfl) (Sees.of rfl))) rfl rfl rfl rfl) ?_
                  refine snil ?_
                  refine f_seq ?_
                  refine f_cond rfl ?_ ?_
                  · intro hc6
                    try simp only [bs] at hc6
                    refine f_skip ?_
                    refine f_seq ?_
                    refine f_block ?_
                    refine f_seq ?_
                    refine f_region ?_
                    refine scons (CStep.step (PStep.c ((by first | exact p_indexN rfl wBet3_isl63 wBet3_siz171 (Sees.of rfl) (Sees.of rfl) (by omega) | exact p_index rfl wBet3_isl63 wBet3_siz171 (Sees.of rfl) (Sees.of rfl) (by omega) (by omega)))) rfl rfl rfl rfl) ?_
                    refine scons (CStep.step (PStep.c (p_loadS rfl wBet3_agg171 wBet3_siz171 (Sees.of rfl) ⟨rfl, fun h => R_len rfl h⟩)) rfl rfl rfl rfl) ?_
                    refine scons (r_alloc (ob := 10017) rfl wBet3_zer171 rfl rfl rfl rfl rfl rfl) ?_
                    refine scons (r_storeS rfl wBet3_siz171 rfl rfl rfl (Sees.of rfl) rfl (Sees.of rfl) rfl rfl rfl rfl) ?_
                    refine snil ?_
                    obtain ⟨w1, w2, w3, _, _⟩ := Sp.resOne_use (hpf.ok i (by omega))
                    have hrl := Sp.resTo_len (n := k) (g := a ++ b) (l := l) i (by omega)
                    rw [List.length_append] at hrl
                    have hpl := Sp.prtTo_len (e := e) (a := a) (b := b) (l := l) i (by omega)
                    refine f_draw wBet3_mix (by kernel_rfl) ?_
                    refine dcons (CStep.step (PStep.c (p_move (y := .row _ _) rfl (Sees.of rfl) rfl)) rfl rfl rfl rfl) ?_
                    refine dcons (CStep.step (PStep.c (p_move (y := .both _ _) rfl (Sees.of rfl) rfl)) rfl rfl rfl rfl) ?_
                    refine dcons (CStep.step (PStep.c (p_fieldRef rfl wBet3_fld171_2 wBet3_siz3 rfl (Sees.of rfl) rfl)) rfl rfl rfl rfl) ?_
                    refine dcons (CStep.step (PStep.c (p_loadB (y := .val _) rfl wBet3_agg3 (Sees.of rfl) rfl rfl rfl rfl)) rfl rfl rfl rfl) ?_
                    refine dcons (CStep.step (PStep.c (p_move (y := .row _ _) rfl (Sees.of rfl) rfl)) rfl rfl rfl rfl) ?_
                    refine dcons (CStep.step (PStep.c (p_fieldRef rfl wBet3_fld171_0 wBet3_siz3 rfl (Sees.of rfl) rfl)) rfl rfl rfl rfl) ?_
                    refine dcons (CStep.step (PStep.c (p_loadB (y := .val _) rfl wBet3_agg3 (Sees.of rfl) rfl rfl rfl rfl)) rfl rfl rfl rfl) ?_
                    refine dcons (CStep.step (PStep.c ((by first | exact p_indexR rfl wBet3_isl167 wBet3_siz141 (Sees.of rfl) rfl (Sees.of rfl) (by rw [hpl]; omega) | exact p_indexRZ rfl wBet3_isl167 wBet3_siz141 (Sees.of rfl) rfl (Sees.of rfl) (by omega) (by rw [hpl]; omega)))) rfl rfl rfl rfl) ?_
                    refine dcons (CStep.step (PStep.c (p_loadE rfl wBet3_agg141 (Sees.of rfl) rfl (by omega) (fun _ => rfl))) rfl rfl rfl rfl) ?_
                    refine dcons (CStep.step (PStep.c (p_move (y := .row _ _) rfl (Sees.of rfl) rfl)) rfl rfl rfl rfl) ?_
                    refine dcons (CStep.step (PStep.c (p_fieldRef rfl wBet3_fld171_1 wBet3_siz3 rfl (Sees.of rfl) rfl)) rfl rfl rfl rfl) ?_
                    refine dcons (CStep.step (PStep.c (p_loadB (y := .val _) rfl wBet3_agg3 (Sees.of rfl) rfl rfl rfl rfl)) rfl rfl rfl rfl) ?_
                    refine dcons (CStep.step (PStep.c ((by first | exact p_indexR rfl wBet3_isl167 wBet3_siz141 (Sees.of rfl) rfl (Sees.of rfl) (by rw [hpl]; omega) | exact p_indexRZ rfl wBet3_isl167 wBet3_siz141 (Sees.of rfl) rfl (Sees.of rfl) (by omega) (by rw [hpl]; omega)))) rfl rfl rfl rfl) ?_
                    refine dcons (CStep.step (PStep.c (p_loadE rfl wBet3_agg141 (Sees.of rfl) rfl (by omega) (fun _ => rfl))) rfl rfl rfl rfl) ?_
                    refine dcons (CStep.step (PStep.c (p_makeMeth rfl rfl)) rfl rfl rfl rfl) ?_
                    refine dcons (CStep.step (PStep.c (p_nilMeth (z := .tmp 92) rfl (hM.n3) rfl rfl)) rfl rfl rfl rfl) ?_
                    refine dcons (CStep.step (PStep.c (p_move (y := .both _ _) rfl (Sees.of rfl) rfl)) rfl rfl rfl rfl) ?_
                    refine dcons (CStep.step (c_invoke rfl (hM.m3) (hM.f3) (Sees.snd rfl) ⟨_, _, rfl, (Sees.of rfl), rfl, ⟨_, _, rfl, (Sees.of rfl), rfl, ⟨_, _, rfl, (Sees.of rfl), rfl, rfl⟩⟩⟩ (hM.s3 k rfl rfl hk _ _ _ w3)) rfl rfl rfl rfl) ?_
                    refine dcons (CStep.step (c_buildSlice (f := (fun p : Sp.Prd => bytes (Sp.btab p k))) (za := Sp.pf) (xs := [.tmp 108]) rfl rfl wBet3_isl167 wBet3_siz141 wBet3_zer141 rfl rfl ⟨_, _, rfl, (Sees.of rfl), rfl, rfl, rfl⟩) rfl rfl rfl rfl) ?_
                    refine dcons (r_appendR (ob := 30000) rfl wBet3_isl167 wBet3_siz141 wBet3_byt141 wBet3_zer141 rfl rfl (Sees.of rfl) rfl (Sees.of rfl) (by rw [hpl]; simp only [List.length_cons, List.length_nil]; omega) (by rw [hpl]; simp only [List.length_cons, List.length_nil]; omega) rfl rfl rfl rfl rfl) ?_
                    refine dcons (CStep.step (PStep.c (p_assign (y := .row _ _) rfl (Sees.of rfl) rfl)) rfl rfl rfl rfl) ?_
                    refine dnil (by kernel_rfl) ?_
                    refine f_nil ?_
                    show AWs _ _ _ _ _
                    refine f_region ?_
                    refine scons (CStep.step (PStep.c (p_add rfl (Sees.of rfl) (Sees.of rfl) (by omega))) rfl rfl rfl rfl) ?_
                    refine scons (CStep.step (PStep.c (p_move (y := .val _) rfl (Sees.of rfl) rfl)) rfl rfl rfl rfl) ?_
                    refine snil ?_
                    refine f_back ⟨(i + 1, u + 1), ?_, ?_, le_ofL ⟨rfl, rfl, (by rw [Sp.prtTo_succ (by omega)]; rfl), rfl, rfl, rfl, rfl, rfl, rfl, rfl, rfl, rfl, rfl, rfl, trivial⟩ rfl⟩
                    · show i + 1 ≤ _
                      omega
                    · show _ - (i + 1) < _ - i
                      omega
                  · intro hc6
                    try simp only [bs] at hc6
                    refine f_exit ?_
                    show AWs _ _ _ _ _
                    refine f_seq ?_
                    have hpl := Sp.prtTo_len (e := e) (a := a) (b := b) (l := l) i (by omega)
                    obtain rfl : i = l.length := by omega
                    refine f_region ?_
                    refine scons (CStep.step (PStep.c (p_move (y := .row _ _) rfl (Sees.of rfl) rfl)) rfl rfl rfl rfl) ?_
                    refine scons (CStep.step (PStep.c (p_move (y := .row _ _) rfl (Sees.of rfl) rfl)) rfl rfl rfl rfl) ?_
                    refine scons (CStep.step (PStep.c (p_lenR rfl wBet3_isl167 (Sees.of rfl) rfl)) rfl rfl rfl rfl) ?_
                    refine scons (CStep.step (PStep.c (p_sub rfl (Sees.of rfl) (Sees.of rfl) (by omega))) rfl rfl rfl rfl) ?_
                    refine scons (CStep.step (PStep.c ((by first | exact p_indexR rfl wBet3_isl167 wBet3_siz141 (Sees.of rfl) rfl (Sees.of rfl) (by rw [hpl]; omega) | exact p_indexRZ rfl wBet3_isl167 wBet3_siz141 (Sees.of rfl) rfl (Sees.of rfl) (by omega) (by rw [hpl]; omega)))) rfl rfl rfl rfl) ?_
                    refine scons (CStep.step (PStep.c (p_loadE rfl wBet3_agg141 (Sees.of rfl) rfl (by omega) (fun _ => rfl))) rfl rfl rfl rfl) ?_
                    refine scons (CStep.step (c_call rfl wBet3_isf93 ⟨_, _, rfl, (Sees.of rfl), rfl, rfl⟩ (Built_spec k (Sp.dtab ((Sp.prtTo e a b l l.length).getD (((Sp.prtTo e a b l l.length).length : Int) - 1).toNat Sp.pf) k) hk (Sp.dtab_len _ _))) rfl rfl rfl rfl) ?_
                    refine scons (CStep.step (PStep.c (p_extract rfl (Sees.of rfl) rfl)) rfl rfl rfl rfl) ?_
                    refine scons (CStep.step (PStep.c (p_extract rfl (Sees.of rfl) rfl)) rfl rfl rfl rfl) ?_
                    refine scons (r_storeS rfl wBet3_siz67 rfl rfl rfl (Sees.of rfl) rfl (Sees.of rfl) rfl rfl rfl rfl) ?_
                    refine scons (r_storeS rfl wBet3_siz26 rfl rfl rfl (Sees.of rfl) rfl (Sees.of rfl) rfl rfl rfl rfl) ?_
                    refine snil ?_
                    refine f_ret ?_
                    refine ends_ret (res_eq (res2 rfl (res_cell (by rfl) rfl rfl wBet3_agg67 wBet3_siz67 rfl rfl) (res_cell (by rfl) rfl rfl wBet3_agg26 wBet3_siz26 rfl rfl)) ?_)
                    rw [Sp.takO, if_neg (fun h => h hc1), if_neg (fun h => h hc2), if_neg (by omega), Int.toNat_natCast, show ((((Sp.prtTo e a b l l.length)).length : Int) - 1).toNat = a.length + b.length + l.length - 1 from by rw [hpl]; omega]
                    all_goals rfl

theorem take_spec (e : Bool) (T F1 F2 F3 : Nat) (n : Int) (a : List (List Int)) (m : Int) (b : List (List Int)) (l : List Sp.Rs) (hM : Meths Go.Proofs.Try.prog e T F1 F2 F3 n a m b) :
    Spec Go.Proofs.Try.prog 82 [.val (cnf n a), .val (cnf m b), .val (chos l), .val (.ifc T (.agg (.cons (di n) (.cons (intss a) (.cons (di m) (.cons (intss b) .nil))))))] (two (dia (Sp.takO e n a m b l).1 (Sp.takO e n a m b l).2.1) (fault (Sp.takO e n a m b l).2.2.1 (Sp.takO e n a m b l).2.2.2)) := Spec.named fun vs => take_specV e T F1 F2 F3 n a m b l hM vs
theorem mcm_meths (n : Int) (a : List (List Int)) (m : Int) (b : List (List Int)) : Meths Go.Proofs.Try.prog false 130 223 224 222 n a m b where
  m1 := by intro recv w; kernel_rfl
  f1 := by unfold IsFn; kernel_rfl
  s1 := by
    rintro k rfl rfl hk c hc
    exact (mcFirst_spec k a k b c hk hc).spec 0
  m2 := by intro recv w; kernel_rfl
  f2 := by unfold IsFn; kernel_rfl
  s2 := by
    rintro k rfl rfl hk
    exact (mcSecond_spec k a k b hk).spec 0
  m3 := by intro recv w; kernel_rfl
  f3 := by unfold IsFn; kernel_rfl
  n3 := by intro recv w; kernel_rfl
  s3 := by
    rintro k rfl rfl hk v p q hv
    exact (mcBoth_spec k a k b v p q hk (by omega)).spec 0
theorem pud_meths (n : Int) (a : List (List Int)) (m : Int) (b : List (List Int)) : Meths Go.Proofs.Try.prog true 136 231 232 230 n a m b where
  m1 := by intro recv w; kernel_rfl
  f1 := by unfold IsFn; kernel_rfl
  s1 := by
    rintro k rfl rfl hk c hc
    exact (puFirst_spec k a k b c hk).spec 0
  m2 := by intro recv w; kernel_rfl
  f2 := by unfold IsFn; kernel_rfl
  s2 := by
    rintro k rfl rfl hk
    exact (puSecond_spec k a k b hk).spec 0
  m3 := by intro recv w; kernel_rfl
  f3 := by unfold IsFn; kernel_rfl
  n3 := by intro recv w; kernel_rfl
  s3 := by
    rintro k rfl rfl hk v p q hv
    exact (puBoth_spec k a k b v p q hk hv).spec 0
theorem Take_spec (n : Int) (a : List (List Int)) (m : Int) (b : List (List Int)) (l : List Sp.Rs) :
    Spec Go.Proofs.Try.prog 33 [.val (cnf n a), .val (cnf m b), .val (chos l)] (two (dia (Sp.takO false n a m b l).1 (Sp.takO false n a m b l).2.1) (fault (Sp.takO false n a m b l).2.2.1 (Sp.takO false n a m b l).2.2.2)) := by
  refine spec_of' Go.Proofs.Try.func33 rfl Go.Proofs.Try.ntmps33 rfl ?_
  refine f_seq ?_
  refine f_region ?_
  refine scons (r_box (ob := 10003) rfl (Sees.of rfl) rfl rfl rfl rfl rfl rfl) ?_
  refine scons (r_box (ob := 10004) rfl (Sees.of rfl) rfl rfl rfl rfl rfl rfl) ?_
  refine scons (r_alloc (ob := 10006) rfl wBet3_zer67 rfl rfl rfl rfl rfl rfl) ?_
  refine scons (r_alloc (ob := 10007) rfl wBet3_zer26 rfl rfl rfl rfl rfl rfl) ?_
  refine snil ?_
  refine f_seq ?_
  refine f_region ?_
  refine scons (CStep.step (PStep.c (p_loadBS rfl wBet3_agg39 wBet3_siz39 (Sees.of rfl) rfl rfl rfl)) rfl rfl rfl rfl) ?_
  refine scons (CStep.step (PStep.c (p_loadBS rfl wBet3_agg39 wBet3_siz39 (Sees.of rfl) rfl rfl rfl)) rfl rfl rfl rfl) ?_
  refine scons (CStep.step (PStep.c (p_move (y := .val _) rfl (Sees.of rfl) rfl)) rfl rfl rfl rfl) ?_
  refine scons (CStep.step (PStep.c (p_loadBS rfl wBet3_agg39 wBet3_siz39 (Sees.of rfl) rfl rfl rfl)) rfl rfl rfl rfl) ?_
  refine scons (CStep.step (PStep.c (p_loadBS rfl wBet3_agg39 wBet3_siz39 (Sees.of rfl) rfl rfl rfl)) rfl rfl rfl rfl) ?_
  refine scons (CStep.step (PStep.c (p_build22 rfl wBet3_plc130 wBet3_zer130 rfl (Sees.of rfl) (Sees.of rfl))) rfl rfl rfl rfl) ?_
  refine scons (CStep.step (PStep.c (p_mkIfc rfl Go.Proofs.Try.underlying130 (Sees.of rfl))) rfl rfl rfl rfl) ?_
  refine scons (CStep.step (c_call rfl wBet3_isf82 ⟨_, _, rfl, (Sees.of rfl), rfl, ⟨_, _, rfl, (Sees.of rfl), rfl, ⟨_, _, rfl, (Sees.of rfl), rfl, ⟨_, _, rfl, (Sees.of rfl), rfl, rfl⟩⟩⟩⟩ (take_spec false _ _ _ _ n a m b l (mcm_meths n a m b))) rfl rfl rfl rfl) ?_
  refine scons (CStep.step (PStep.c (p_extract rfl (Sees.of rfl) rfl)) rfl rfl rfl rfl) ?_
  refine scons (CStep.step (PStep.c (p_extract rfl (Sees.of rfl) rfl)) rfl rfl rfl rfl) ?_
  refine scons (r_storeS rfl wBet3_siz67 rfl rfl rfl (Sees.of rfl) rfl (Sees.of rfl) rfl rfl rfl rfl) ?_
  refine scons (r_storeS rfl wBet3_siz26 rfl rfl rfl (Sees.of rfl) rfl (Sees.of rfl) rfl rfl rfl rfl) ?_
  refine snil ?_
  refine f_ret ?_
  refine ends_ret (res_eq (res2 rfl (res_cell (by rfl) rfl rfl wBet3_agg67 wBet3_siz67 rfl rfl) (res_cell (by rfl) rfl rfl wBet3_agg26 wBet3_siz26 rfl rfl)) ?_)
  rfl

theorem Even_spec (n : Int) (a : List (List Int)) (m : Int) (b : List (List Int)) (l : List Sp.Rs) :
    Spec Go.Proofs.Try.prog 39 [.val (cnf n a), .val (cnf m b), .val (chos l)] (two (dia (Sp.takO true n a m b l).1 (Sp.takO true n a m b l).2.1) (fault (Sp.takO true n a m b l).2.2.1 (Sp.takO true n a m b l).2.2.2)) := by
  refine spec_of' Go.Proofs.Try.func39 rfl Go.Proofs.Try.ntmps39 rfl ?_
  refine f_seq ?_
  refine f_region ?_
  refine scons (r_box (ob := 10003) rfl (Sees.of rfl) rfl rfl rfl rfl rfl rfl) ?_
  refine scons (r_box (ob := 10004) rfl (Sees.of rfl) rfl rfl rfl rfl rfl rfl) ?_
  refine scons (r_alloc (ob := 10006) rfl wBet3_zer67 rfl rfl rfl rfl rfl rfl) ?_
  refine scons (r_alloc (ob := 10007) rfl wBet3_zer26 rfl rfl rfl rfl rfl rfl) ?_
  refine snil ?_
  refine f_seq ?_
  refine f_region ?_
  refine scons (CStep.step (PStep.c (p_loadBS rfl wBet3_agg39 wBet3_siz39 (Sees.of rfl) rfl rfl rfl)) rfl rfl rfl rfl) ?_
  refine scons (CStep.step (PStep.c (p_loadBS rfl wBet3_agg39 wBet3_siz39 (Sees.of rfl) rfl rfl rfl)) rfl rfl rfl rfl) ?_
  refine scons (CStep.step (PStep.c (p_move (y := .val _) rfl (Sees.of rfl) rfl)) rfl rfl rfl rfl) ?_
  refine scons (CStep.step (PStep.c (p_loadBS rfl wBet3_agg39 wBet3_siz39 (Sees.of rfl) rfl rfl rfl)) rfl rfl rfl rfl) ?_
  refine scons (CStep.step (PStep.c (p_loadBS rfl wBet3_agg39 wBet3_siz39 (Sees.of rfl) rfl rfl rfl)) rfl rfl rfl rfl) ?_
  refine scons (CStep.step (PStep.c (p_build22 rfl wBet3_plc136 wBet3_zer136 rfl (Sees.of rfl) (Sees.of rfl))) rfl rfl rfl rfl) ?_
  refine scons (CStep.step (PStep.c (p_mkIfc rfl Go.Proofs.Try.underlying136 (Sees.of rfl))) rfl rfl rfl rfl) ?_
  refine scons (CStep.step (c_call rfl wBet3_isf82 ⟨_, _, rfl, (Sees.of rfl), rfl, ⟨_, _, rfl, (Sees.of rfl), rfl, ⟨_, _, rfl, (Sees.of rfl), rfl, ⟨_, _, rfl, (Sees.of rfl), rfl, rfl⟩⟩⟩⟩ (take_spec true _ _ _ _ n a m b l (pud_meths n a m b))) rfl rfl rfl rfl) ?_
  refine scons (CStep.step (PStep.c (p_extract rfl (Sees.of rfl) rfl)) rfl rfl rfl rfl) ?_
  refine scons (CStep.step (PStep.c (p_extract rfl (Sees.of rfl) rfl)) rfl rfl rfl rfl) ?_
  refine scons (r_storeS rfl wBet3_siz67 rfl rfl rfl (Sees.of rfl) rfl (Sees.of rfl) rfl rfl rfl rfl) ?_
  refine scons (r_storeS rfl wBet3_siz26 rfl rfl rfl (Sees.of rfl) rfl (Sees.of rfl) rfl rfl rfl rfl) ?_
  refine snil ?_
  refine f_ret ?_
  refine ends_ret (res_eq (res2 rfl (res_cell (by rfl) rfl rfl wBet3_agg67 wBet3_siz67 rfl rfl) (res_cell (by rfl) rfl rfl wBet3_agg26 wBet3_siz26 rfl rfl)) ?_)
  rfl

end Go.Um
