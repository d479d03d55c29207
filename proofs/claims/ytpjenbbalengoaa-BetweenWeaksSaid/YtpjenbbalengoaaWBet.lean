/- Walks of Go functions of this seat, each by its contract. No condition beyond what each theorem says. -/
import Derived.Test.YtpjenbbalengoaaWDia6
import Derived.Test.YtpjenbbalengoaaWLst
import Derived.Test.YtpjenbbalengoaaPD
import Derived.Test.YtpjenbbalengoaaIfc
import Derived.Test.YtpjenbbalengoaaFld
import Derived.Test.YtpjenbbalengoaaProg
import Derived.KernelRfl
set_option maxRecDepth 4000
namespace Go.Um
open Go Go.RowKit

theorem wBet_agg24 : IsAgg Go.Proofs.Try.prog 24 false := by unfold IsAgg; kernel_rfl
theorem wBet_agg26 : IsAgg Go.Proofs.Try.prog 26 true := by unfold IsAgg; kernel_rfl
theorem wBet_agg3 : IsAgg Go.Proofs.Try.prog 3 false := by unfold IsAgg; kernel_rfl
theorem wBet_agg33 : IsAgg Go.Proofs.Try.prog 33 false := by unfold IsAgg; kernel_rfl
theorem wBet_agg37 : IsAgg Go.Proofs.Try.prog 37 false := by unfold IsAgg; kernel_rfl
theorem wBet_agg39 : IsAgg Go.Proofs.Try.prog 39 true := by unfold IsAgg; kernel_rfl
theorem wBet_agg4 : IsAgg Go.Proofs.Try.prog 4 false := by unfold IsAgg; kernel_rfl
theorem wBet_agg5 : IsAgg Go.Proofs.Try.prog 5 false := by unfold IsAgg; kernel_rfl
theorem wBet_agg67 : IsAgg Go.Proofs.Try.prog 67 true := by unfold IsAgg; kernel_rfl
theorem wBet_fld130_0 : IsField Go.Proofs.Try.prog 130 0 0 39 := by unfold IsField; kernel_rfl
theorem wBet_fld130_1 : IsField Go.Proofs.Try.prog 130 1 2 39 := by unfold IsField; kernel_rfl
theorem wBet_fld136_0 : IsField Go.Proofs.Try.prog 136 0 0 39 := by unfold IsField; kernel_rfl
theorem wBet_fld136_1 : IsField Go.Proofs.Try.prog 136 1 2 39 := by unfold IsField; kernel_rfl
theorem wBet_fld26_0 : IsField Go.Proofs.Try.prog 26 0 0 3 := by unfold IsField; kernel_rfl
theorem wBet_fld39_0 : IsField Go.Proofs.Try.prog 39 0 0 3 := by unfold IsField; kernel_rfl
theorem wBet_fld39_1 : IsField Go.Proofs.Try.prog 39 1 1 37 := by unfold IsField; kernel_rfl
theorem wBet_isf125 : IsFn Go.Proofs.Try.prog 125 := by unfold IsFn; kernel_rfl
theorem wBet_isf127 : IsFn Go.Proofs.Try.prog 127 := by unfold IsFn; kernel_rfl
theorem wBet_isf131 : IsFn Go.Proofs.Try.prog 131 := by unfold IsFn; kernel_rfl
theorem wBet_isf132 : IsFn Go.Proofs.Try.prog 132 := by unfold IsFn; kernel_rfl
theorem wBet_isf133 : IsFn Go.Proofs.Try.prog 133 := by unfold IsFn; kernel_rfl
theorem wBet_isf134 : IsFn Go.Proofs.Try.prog 134 := by unfold IsFn; kernel_rfl
theorem wBet_isf136 : IsFn Go.Proofs.Try.prog 136 := by unfold IsFn; kernel_rfl
theorem wBet_isf137 : IsFn Go.Proofs.Try.prog 137 := by unfold IsFn; kernel_rfl
theorem wBet_isf138 : IsFn Go.Proofs.Try.prog 138 := by unfold IsFn; kernel_rfl
theorem wBet_isf153 : IsFn Go.Proofs.Try.prog 153 := by unfold IsFn; kernel_rfl
theorem wBet_isf162 : IsFn Go.Proofs.Try.prog 162 := by unfold IsFn; kernel_rfl
theorem wBet_isf163 : IsFn Go.Proofs.Try.prog 163 := by unfold IsFn; kernel_rfl
theorem wBet_isf164 : IsFn Go.Proofs.Try.prog 164 := by unfold IsFn; kernel_rfl
theorem wBet_isf185 : IsFn Go.Proofs.Try.prog 185 := by unfold IsFn; kernel_rfl
theorem wBet_isf225 : IsFn Go.Proofs.Try.prog 225 := by unfold IsFn; kernel_rfl
theorem wBet_isf226 : IsFn Go.Proofs.Try.prog 226 := by unfold IsFn; kernel_rfl
theorem wBet_isf227 : IsFn Go.Proofs.Try.prog 227 := by unfold IsFn; kernel_rfl
theorem wBet_isf228 : IsFn Go.Proofs.Try.prog 228 := by unfold IsFn; kernel_rfl
theorem wBet_isf229 : IsFn Go.Proofs.Try.prog 229 := by unfold IsFn; kernel_rfl
theorem wBet_isf51 : IsFn Go.Proofs.Try.prog 51 := by unfold IsFn; kernel_rfl
theorem wBet_isf71 : IsFn Go.Proofs.Try.prog 71 := by unfold IsFn; kernel_rfl
theorem wBet_isf79 : IsFn Go.Proofs.Try.prog 79 := by unfold IsFn; kernel_rfl
theorem wBet_isf92 : IsFn Go.Proofs.Try.prog 92 := by unfold IsFn; kernel_rfl
theorem wBet_isf93 : IsFn Go.Proofs.Try.prog 93 := by unfold IsFn; kernel_rfl
theorem wBet_isf94 : IsFn Go.Proofs.Try.prog 94 := by unfold IsFn; kernel_rfl
theorem wBet_isl141 : IsSlice Go.Proofs.Try.prog 141 5 := by unfold IsSlice; kernel_rfl
theorem wBet_isl37 : IsSlice Go.Proofs.Try.prog 37 33 := by unfold IsSlice; kernel_rfl
theorem wBet_mix : (Go.Proofs.Try.prog).follows .mixedOrders = true := by kernel_rfl
theorem wBet_plc26 : Places Go.Proofs.Try.prog 26 [(0, 1), (1, 1)] := by unfold Places; kernel_rfl
theorem wBet_plc67 : Places Go.Proofs.Try.prog 67 [(0, 1), (1, 1)] := by unfold Places; kernel_rfl
theorem wBet_siz26 : Size Go.Proofs.Try.prog 26 2 := by unfold Size; kernel_rfl
theorem wBet_siz3 : Size Go.Proofs.Try.prog 3 1 := by unfold Size; kernel_rfl
theorem wBet_siz37 : Size Go.Proofs.Try.prog 37 1 := by unfold Size; kernel_rfl
theorem wBet_siz39 : Size Go.Proofs.Try.prog 39 2 := by unfold Size; kernel_rfl
theorem wBet_siz5 : Size Go.Proofs.Try.prog 5 1 := by unfold Size; kernel_rfl
theorem wBet_siz67 : Size Go.Proofs.Try.prog 67 2 := by unfold Size; kernel_rfl
def wBet_z26 : D := .cons (.int .i64 0) (.cons (.int .i64 0) (.nil))
theorem wBet_zch26 : ∀ (ok : Nat → Prop) (w : World), R Go.Proofs.Try.prog wBet_z26 ok w (Value.cells (.agg #[(.int .i64 0), (.int .i64 0)])).toList := fun _ _ => z_int (z_int (z_nil))
def wBet_z67 : D := .cons (chos []) (.cons (.int .i64 0) (.nil))
theorem wBet_zch67 : ∀ (ok : Nat → Prop) (w : World), R Go.Proofs.Try.prog wBet_z67 ok w (Value.cells (.agg #[(.slice none 0 0), (.int .i64 0)])).toList := fun _ _ => z_list (z_int (z_nil))
theorem wBet_zer26 : Zero Go.Proofs.Try.prog 26 (.agg #[(.int .i64 0), (.int .i64 0)]) := by unfold Zero; kernel_rfl
theorem wBet_zer67 : Zero Go.Proofs.Try.prog 67 (.agg #[(.slice none 0 0), (.int .i64 0)]) := by unfold Zero; kernel_rfl

theorem betC_spec (n : Int) (a : List (List Int)) (m : Int) (b : List (List Int)) :
    Spec Go.Proofs.Try.prog 127 [.val (cnf n a), .val (cnf m b)] (fault (Sp.betW n a m b).1 (Sp.betW n a m b).2) := by
  refine spec_of' Go.Proofs.Try.func127 rfl Go.Proofs.Try.ntmps127 rfl ?_
  refine f_seq ?_
  refine f_region ?_
  refine scons (r_box (ob := 10002) rfl (Sees.of rfl) rfl rfl rfl rfl rfl rfl) ?_
  refine scons (r_box (ob := 10003) rfl (Sees.of rfl) rfl rfl rfl rfl rfl rfl) ?_
  refine scons (r_alloc (ob := 10004) rfl wBet_zer26 rfl rfl rfl rfl rfl rfl) ?_
  refine snil ?_
  refine f_seq ?_
  refine f_seq ?_
  refine f_region ?_
  refine scons (CStep.step (PStep.c (p_loadBS rfl wBet_agg39 wBet_siz39 (Sees.of rfl) rfl rfl rfl)) rfl rfl rfl rfl) ?_
  refine scons (CStep.step (c_call rfl wBet_isf79 ⟨_, _, rfl, (Sees.of rfl), rfl, rfl⟩ (ccheck_spec n a)) rfl rfl rfl rfl) ?_
  refine scons (r_alloc (ob := 10005) rfl wBet_zer26 rfl rfl rfl rfl rfl rfl) ?_
  refine scons (r_storeS rfl wBet_siz26 rfl rfl rfl (Sees.of rfl) rfl (Sees.of rfl) rfl rfl rfl rfl) ?_
  refine snil ?_
  refine f_seq ?_
  refine f_region ?_
  refine scons (CStep.step (PStep.c (p_fieldRef rfl wBet_fld26_0 wBet_siz3 rfl (Sees.of rfl) rfl)) rfl rfl rfl rfl) ?_
  refine scons (CStep.step (PStep.c (p_loadB (y := .val _) rfl wBet_agg3 (Sees.of rfl) rfl rfl rfl rfl)) rfl rfl rfl rfl) ?_
  refine scons (CStep.step (PStep.c (p_neq rfl (Sees.of rfl) (Sees.of rfl))) rfl rfl rfl rfl) ?_
  refine snil ?_
  refine f_cond rfl ?_ ?_
  · intro hc1
    try simp only [bs] at hc1
    refine f_seq ?_
    refine f_region ?_
    refine scons (CStep.step (PStep.c (p_loadBS rfl wBet_agg26 wBet_siz26 (Sees.of rfl) rfl rfl rfl)) rfl rfl rfl rfl) ?_
    refine scons (r_storeS rfl wBet_siz26 rfl rfl rfl (Sees.of rfl) rfl (Sees.of rfl) rfl rfl rfl rfl) ?_
    refine snil ?_
    refine f_ret ?_
    refine ends_ret (res_eq (res1 rfl (res_cell (by rfl) rfl rfl wBet_agg26 wBet_siz26 rfl rfl)) ?_)
    rw [Sp.betW, if_pos hc1]
    all_goals rfl
  · intro hc1
    try simp only [bs] at hc1
    have hla := (Sp.check_ok hc1).2.1
    refine f_skip ?_
    refine f_seq ?_
    refine f_seq ?_
    refine f_region ?_
    refine scons (CStep.step (PStep.c (p_loadBS rfl wBet_agg39 wBet_siz39 (Sees.of rfl) rfl rfl rfl)) rfl rfl rfl rfl) ?_
    refine scons (CStep.step (c_call rfl wBet_isf79 ⟨_, _, rfl, (Sees.of rfl), rfl, rfl⟩ (ccheck_spec m b)) rfl rfl rfl rfl) ?_
    refine scons (r_alloc (ob := 10006) rfl wBet_zer26 rfl rfl rfl rfl rfl rfl) ?_
    refine scons (r_storeS rfl wBet_siz26 rfl rfl rfl (Sees.of rfl) rfl (Sees.of rfl) rfl rfl rfl rfl) ?_
    refine snil ?_
    refine f_seq ?_
    refine f_region ?_
    refine scons (CStep.step (PStep.c (p_fieldRef rfl wBet_fld26_0 wBet_siz3 rfl (Sees.of rfl) rfl)) rfl rfl rfl rfl) ?_
    refine scons (CStep.step (PStep.c (p_loadB (y := .val _) rfl wBet_agg3 (Sees.of rfl) rfl rfl rfl rfl)) rfl rfl rfl rfl) ?_
    refine scons (CStep.step (PStep.c (p_neq rfl (Sees.of rfl) (Sees.of rfl))) rfl rfl rfl rfl) ?_
    refine snil ?_
    refine f_cond rfl ?_ ?_
    · intro hc2
      try simp only [bs] at hc2
      refine f_seq ?_
      refine f_region ?_
      refine scons (CStep.step (PStep.c (p_loadBS rfl wBet_agg26 wBet_siz26 (Sees.of rfl) rfl rfl rfl)) rfl rfl rfl rfl) ?_
      refine scons (r_storeS rfl wBet_siz26 rfl rfl rfl (Sees.of rfl) rfl (Sees.of rfl) rfl rfl rfl rfl) ?_
      refine snil ?_
      refine f_ret ?_
      refine ends_ret (res_eq (res1 rfl (res_cell (by rfl) rfl rfl wBet_agg26 wBet_siz26 rfl rfl)) ?_)
      rw [Sp.betW, if_neg (fun h => h hc1), if_pos hc2]
      all_goals rfl
    · intro hc2
      try simp only [bs] at hc2
      have hlb := (Sp.check_ok hc2).2.1
      refine f_skip ?_
      refine f_seq ?_
      refine f_block ?_
      refine f_seq ?_
      refine f_region ?_
      refine scons (CStep.step (PStep.c (p_fieldRef rfl wBet_fld39_0 wBet_siz3 rfl (Sees.of rfl) rfl)) rfl rfl rfl rfl) ?_
      refine scons (CStep.step (PStep.c (p_loadB (y := .val _) rfl wBet_agg3 (Sees.of rfl) rfl rfl rfl rfl)) rfl rfl rfl rfl) ?_
      refine scons (CStep.step (PStep.c (p_fieldRef rfl wBet_fld39_0 wBet_siz3 rfl (Sees.of rfl) rfl)) rfl rfl rfl rfl) ?_
      refine scons (CStep.step (PStep.c (p_loadB (y := .val _) rfl wBet_agg3 (Sees.of rfl) rfl rfl rfl rfl)) rfl rfl rfl rfl) ?_
      refine scons (CStep.step (PStep.c (p_neq rfl (Sees.of rfl) (Sees.of rfl))) rfl rfl rfl rfl) ?_
      refine scons (CStep.step (PStep.c (p_assign (y := .val _) rfl (Sees.of rfl) rfl)) rfl rfl rfl rfl) ?_
      refine snil ?_
      refine f_cond rfl ?_ ?_
      · intro hc3
        try simp only [bs] at hc3
        refine f_seq ?_
        refine f_region ?_
        refine scons (CStep.step (PStep.c (p_build rfl wBet_plc26 wBet_zer26 (by decide) wBet_zch26 ⟨_, _, _, rfl, rfl, rfl, (Sees.of rfl), ⟨_, _, _, rfl, rfl, rfl, (Sees.of rfl), rfl⟩⟩ rfl)) rfl rfl rfl rfl) ?_
        refine scons (r_storeS rfl wBet_siz26 rfl rfl rfl (Sees.of rfl) rfl (Sees.of rfl) rfl rfl rfl rfl) ?_
        refine snil ?_
        refine f_ret ?_
        refine ends_ret (res_eq (res1 rfl (res_cell (by rfl) rfl rfl wBet_agg26 wBet_siz26 rfl rfl)) ?_)
        rw [Sp.betW, if_neg (fun h => h hc1), if_neg (fun h => h hc2), if_pos hc3]
        all_goals rfl
      · intro hc3
        try simp only [bs] at hc3
        refine f_seq ?_
        refine f_region ?_
        refine scons (CStep.step (PStep.c (p_fieldRef rfl wBet_fld39_0 wBet_siz3 rfl (Sees.of rfl) rfl)) rfl rfl rfl rfl) ?_
        refine scons (CStep.step (PStep.c (p_loadB (y := .val _) rfl wBet_agg3 (Sees.of rfl) rfl rfl rfl rfl)) rfl rfl rfl rfl) ?_
        refine scons (CStep.step (PStep.c (p_gtr rfl (Sees.of rfl) (Sees.of rfl))) rfl rfl rfl rfl) ?_
        refine scons (CStep.step (PStep.c (p_move (y := .val _) rfl (Sees.of rfl) rfl)) rfl rfl rfl rfl) ?_
        refine scons (CStep.guard rfl rfl rfl (fun hg0 => PStep.c (p_fieldRef rfl wBet_fld39_1 wBet_siz37 rfl (Sees.of rfl) rfl)) rfl rfl rfl rfl rfl) ?_
        refine scons (CStep.guard rfl rfl rfl (fun hg0 => PStep.c (p_loadB (y := .val _) rfl wBet_agg37 (Sees.gv' rfl hg0) rfl rfl rfl rfl)) rfl rfl rfl rfl rfl) ?_
        refine scons (CStep.guard rfl rfl rfl (fun hg0 => PStep.c (p_len rfl wBet_isl37 (Sees.gv' rfl hg0))) rfl rfl rfl rfl rfl) ?_
        refine scons (CStep.guard rfl rfl rfl (fun hg0 => PStep.c (p_fieldRef rfl wBet_fld39_1 wBet_siz37 rfl (Sees.of rfl) rfl)) rfl rfl rfl rfl rfl) ?_
        refine scons (CStep.guard rfl rfl rfl (fun hg0 => PStep.c (p_loadB (y := .val _) rfl wBet_agg37 (Sees.gv' rfl hg0) rfl rfl rfl rfl)) rfl rfl rfl rfl rfl) ?_
        refine scons (CStep.guard rfl rfl rfl (fun hg0 => PStep.c (p_len rfl wBet_isl37 (Sees.gv' rfl hg0))) rfl rfl rfl rfl rfl) ?_
        refine scons (CStep.guard rfl rfl rfl (fun hg0 => by have hp0 := hg0; (try simp only [bs] at hp0); exact PStep.c (p_add rfl (Sees.gv' rfl hg0) (Sees.gv' rfl hg0) (by omega))) rfl rfl rfl rfl rfl) ?_
        refine scons (CStep.guard rfl rfl rfl (fun hg0 => PStep.c (p_gtr rfl (Sees.gv' rfl hg0) (Sees.of rfl))) rfl rfl rfl rfl rfl) ?_
        refine scons (CStep.step (PStep.c (p_or rfl (Sees.of rfl) (Sees.of rfl) (fun h => Sees.gv' rfl (beq_of_eq h)))) rfl rfl rfl rfl) ?_
        refine scons (CStep.step (PStep.c (p_assign (y := .val _) rfl (Sees.of rfl) rfl)) rfl rfl rfl rfl) ?_
        refine snil ?_
        refine f_cond rfl ?_ ?_
        · intro hc4
          try simp only [bs] at hc4
          refine f_seq ?_
          refine f_region ?_
          refine scons (CStep.step (PStep.c (p_build rfl wBet_plc26 wBet_zer26 (by decide) wBet_zch26 ⟨_, _, _, rfl, rfl, rfl, (Sees.of rfl), ⟨_, _, _, rfl, rfl, rfl, (Sees.of rfl), rfl⟩⟩ rfl)) rfl rfl rfl rfl) ?_
          refine scons (r_storeS rfl wBet_siz26 rfl rfl rfl (Sees.of rfl) rfl (Sees.of rfl) rfl rfl rfl rfl) ?_
          refine snil ?_
          refine f_ret ?_
          refine ends_ret (res_eq (res1 rfl (res_cell (by rfl) rfl rfl wBet_agg26 wBet_siz26 rfl rfl)) ?_)
          rw [Sp.betW, if_neg (fun h => h hc1), if_neg (fun h => h hc2), if_neg (fun h => h hc3), if_pos (by omega)]
          all_goals rfl
        · intro hc4
          try simp only [bs] at hc4
          refine f_skip ?_
          refine f_nil ?_
          show AWs _ _ _ _ _
          refine f_seq ?_
          refine f_region ?_
          refine scons (CStep.step (PStep.c (p_build rfl wBet_plc26 wBet_zer26 (by decide) wBet_zch26 rfl rfl)) rfl rfl rfl rfl) ?_
          refine scons (r_storeS rfl wBet_siz26 rfl rfl rfl (Sees.of rfl) rfl (Sees.of rfl) rfl rfl rfl rfl) ?_
          refine snil ?_
          refine f_ret ?_
          refine ends_ret (res_eq (res1 rfl (res_cell (by rfl) rfl rfl wBet_agg26 wBet_siz26 rfl rfl)) ?_)
          rw [Sp.betW, if_neg (fun h => h hc1), if_neg (fun h => h hc2), if_neg (fun h => h hc3), if_neg (by omega)]
          all_goals rfl

theorem occ1_spec (l : List Int) (v : Int) (hv : -9223372036854775808 < v ∧ v ≤ 9223372036854775807) :
    Spec Go.Proofs.Try.prog 163 [.val (ints l), .ptr (di v)] (D.bool (decide (v ∈ l) || decide (-v ∈ l))) := by
  refine spec_of' Go.Proofs.Try.func163 rfl Go.Proofs.Try.ntmps163 rfl ?_
  refine f_seq ?_
  refine f_region ?_
  refine scons (CStep.step (PStep.c (p_assign (y := .val _) rfl (Sees.of rfl) rfl)) rfl rfl rfl rfl) ?_
  refine snil ?_
  refine f_seq ?_
  refine f_region ?_
  refine scons (CStep.step (PStep.c (p_move (y := .val _) rfl (Sees.of rfl) rfl)) rfl rfl rfl rfl) ?_
  refine scons (CStep.step (PStep.c (p_load rfl wBet_agg3 (Sees.of rfl) rfl)) rfl rfl rfl rfl) ?_
  refine scons (CStep.step (c_call rfl wBet_isf51 ⟨_, _, rfl, (Sees.of rfl), rfl, ⟨_, _, rfl, (Sees.of rfl), rfl, rfl⟩⟩ (hasI_spec l v)) rfl rfl rfl rfl) ?_
  refine scons (CStep.step (PStep.c (p_move (y := .val _) rfl (Sees.of rfl) rfl)) rfl rfl rfl rfl) ?_
  refine scons (CStep.guard rfl rfl rfl (fun hg0 => PStep.c (p_move (y := .val _) rfl (Sees.of rfl) rfl)) rfl rfl rfl rfl rfl) ?_
  refine scons (CStep.guard rfl rfl rfl (fun hg0 => PStep.c (p_load rfl wBet_agg3 (Sees.of rfl) rfl)) rfl rfl rfl rfl rfl) ?_
  refine scons (CStep.guard rfl rfl rfl (fun hg0 => by have hp0 := hg0; (try simp only [bs] at hp0); exact PStep.c (p_neg rfl (Sees.gv' rfl hg0) (by omega))) rfl rfl rfl rfl rfl) ?_
  refine scons (CStep.guard rfl rfl rfl (fun hg0 => c_call rfl wBet_isf51 ⟨_, _, rfl, (Sees.gv' rfl hg0), rfl, ⟨_, _, rfl, (Sees.gv' rfl hg0), rfl, rfl⟩⟩ (hasI_spec l (-v))) rfl rfl rfl rfl rfl) ?_
  refine scons (CStep.step (PStep.c (p_or rfl (Sees.of rfl) (Sees.of rfl) (fun h => Sees.gv' rfl (beq_of_eq h)))) rfl rfl rfl rfl) ?_
  refine scons (CStep.step (PStep.c (p_assign (y := .val _) rfl (Sees.of rfl) rfl)) rfl rfl rfl rfl) ?_
  refine snil ?_
  refine f_ret ?_
  refine ends_ret (res_eq (res1 rfl (res_tmp rfl (Sees.of rfl))) ?_)
  rfl

theorem occurs_spec (n : Int) (ls : List (List Int)) (v : Int) (hv : -9223372036854775808 < v ∧ v ≤ 9223372036854775807) :
    Spec Go.Proofs.Try.prog 137 [.val (cnf n ls), iv v] (D.bool (Sp.occ ls v)) := by
  refine spec_of' Go.Proofs.Try.func137 rfl Go.Proofs.Try.ntmps137 rfl ?_
  refine f_seq ?_
  refine f_region ?_
  refine scons (r_box (ob := 10002) rfl (Sees.of rfl) rfl rfl rfl rfl rfl rfl) ?_
  refine scons (r_box (ob := 10003) rfl (Sees.of rfl) rfl rfl rfl rfl rfl rfl) ?_
  refine scons (CStep.step (PStep.c (p_assign (y := .val _) rfl (Sees.of rfl) rfl)) rfl rfl rfl rfl) ?_
  refine snil ?_
  refine f_seq ?_
  refine f_region ?_
  refine scons (CStep.step (PStep.c (p_fieldRef rfl wBet_fld39_1 wBet_siz37 rfl (Sees.of rfl) rfl)) rfl rfl rfl rfl) ?_
  refine scons (CStep.step (PStep.c (p_loadB (y := .val _) rfl wBet_agg37 (Sees.of rfl) rfl rfl rfl rfl)) rfl rfl rfl rfl) ?_
  refine scons (CStep.step (PStep.c (p_makeFunc (l := [.tmp 3]) rfl)) rfl rfl rfl rfl) ?_
  refine scons (CStep.step (c_callS (q := true) rfl wBet_isf125 (containsII_spec ls (fun l => decide (v ∈ l) || decide (-v ∈ l)) (fun _ => True) (fun _ _ => trivial)) (sa_cons (sh_of (Sees.of rfl) rfl) (sa_cons (sh_clo (Sees.of rfl) wBet_isf163 (sl_cons (sh_ref1 Sees.same rfl rfl (sh_of Sees.same rfl)) (sl_nil)) (fun _ => rfl) (fun _ => rfl) (fun y => occ1_spec y.1 v hv)) (sa_nil))) rfl) rfl rfl rfl rfl) ?_
  refine scons (CStep.step (PStep.c (p_assign (y := .val _) rfl (Sees.of rfl) rfl)) rfl rfl rfl rfl) ?_
  refine snil ?_
  refine f_ret ?_
  refine ends_ret (res_eq (res1 rfl (res_tmp rfl (Sees.of rfl))) ?_)
  rfl

theorem const1_spec (x : List Bool) (c : Bool) :
    Spec Go.Proofs.Try.prog 229 [.val (bools x), .ptr (D.bool c)] (D.bool c) := by
  refine spec_of' Go.Proofs.Try.func229 rfl Go.Proofs.Try.ntmps229 rfl ?_
  refine f_seq ?_
  refine f_region ?_
  refine scons (CStep.step (PStep.c (p_assign (y := .val _) rfl (Sees.of rfl) rfl)) rfl rfl rfl rfl) ?_
  refine snil ?_
  refine f_seq ?_
  refine f_region ?_
  refine scons (CStep.step (PStep.c (p_load rfl wBet_agg4 (Sees.of rfl) rfl)) rfl rfl rfl rfl) ?_
  refine scons (CStep.step (PStep.c (p_assign (y := .val _) rfl (Sees.of rfl) rfl)) rfl rfl rfl rfl) ?_
  refine snil ?_
  refine f_ret ?_
  refine ends_ret (res_eq (res1 rfl (res_tmp rfl (Sees.of rfl))) ?_)
  rfl

theorem constant_spec (n : Nat) (c : Bool) (hn : n ≤ 16) :
    SpecN Go.Proofs.Try.prog 228 [iv n, bv c] 5 1 1 dby (Sp.btab (fun _ => c) n) := by
  refine specN_of' Go.Proofs.Try.func228 rfl Go.Proofs.Try.ntmps228 rfl ?_
  refine f_seq ?_
  refine f_region ?_
  refine scons (r_box (ob := 10003) rfl (Sees.of rfl) rfl rfl rfl rfl rfl rfl) ?_
  refine scons (CStep.step (PStep.c (p_assign (y := .emp) rfl (Sees.of rfl) rfl)) rfl rfl rfl rfl) ?_
  refine snil ?_
  refine f_seq ?_
  refine f_region ?_
  refine scons (CStep.step (PStep.c (p_move (y := .val _) rfl (Sees.of rfl) rfl)) rfl rfl rfl rfl) ?_
  refine scons (CStep.step (PStep.c (p_makeFunc (l := [.tmp 3]) rfl)) rfl rfl rfl rfl) ?_
  refine scons (r_callS (q := true) (ob := 10007) 0 rfl wBet_isf131 (Made_spec n (fun _ => c) hn) (sa_cons (sh_of (Sees.of rfl) rfl) (sa_cons (sh_clo (Sees.of rfl) wBet_isf229 (sl_cons (sh_ref1 Sees.same rfl rfl (sh_of Sees.same rfl)) (sl_nil)) (fun _ => rfl) (fun _ => rfl) (fun y => const1_spec y.1 c)) (sa_nil))) (.inr (fun _ => rfl)) rfl rfl rfl rfl rfl) ?_
  refine scons (CStep.step (PStep.c (p_assign (y := .row _ _) rfl (Sees.of rfl) rfl)) rfl rfl rfl rfl) ?_
  refine snil ?_
  refine f_ret ?_
  refine endsN_ret (resN_eq (resN_row rfl rfl rfl rfl) ?_)
  rfl

theorem mcf11_spec (n : Nat) (a : List (List Int)) (m : Nat) (b : List (List Int)) (x : List Bool) (l : Int) (hl : l ≠ 0 ∧ -(x.length : Int) ≤ l ∧ l ≤ x.length) (hx : x.length ≤ 1000) :
    Spec Go.Proofs.Try.prog 227 [iv l, .ptr (.agg (.cons (di n) (.cons (intss a) (.cons (di m) (.cons (intss b) .nil))))), .ptr (bools x)] (D.bool (Sp.occ b (Sp.av l) && Sp.lit x l)) := by
  refine spec_of' Go.Proofs.Try.func227 rfl Go.Proofs.Try.ntmps227 rfl ?_
  refine f_seq ?_
  refine f_region ?_
  refine scons (CStep.step (PStep.c (p_assign (y := .val _) rfl (Sees.of rfl) rfl)) rfl rfl rfl rfl) ?_
  refine snil ?_
  refine f_seq ?_
  refine f_draw wBet_mix (by kernel_rfl) ?_
  refine dcons (CStep.step (PStep.c (p_fieldAddrA rfl wBet_fld130_1 wBet_siz39 rfl (Sees.of rfl) rfl)) rfl rfl rfl rfl) ?_
  refine dcons (CStep.step (PStep.c (p_loadS rfl wBet_agg39 wBet_siz39 (Sees.of rfl) ⟨rfl, fun h => R_len rfl h⟩)) rfl rfl rfl rfl) ?_
  refine dcons (CStep.step (PStep.c (p_move (y := .val _) rfl (Sees.of rfl) rfl)) rfl rfl rfl rfl) ?_
  refine dcons (CStep.step (c_call rfl wBet_isf71 ⟨_, _, rfl, (Sees.of rfl), rfl, rfl⟩ (var_spec l (by omega))) rfl rfl rfl rfl) ?_
  refine dcons (CStep.step (c_call rfl wBet_isf137 ⟨_, _, rfl, (Sees.of rfl), rfl, ⟨_, _, rfl, (Sees.of rfl), rfl, rfl⟩⟩ ((show Spec _ _ _ (D.bool (Sp.occ b (Sp.av l))) from occurs_spec m b (max l (-l)) (by omega)))) rfl rfl rfl rfl) ?_
  refine dcons (CStep.step (PStep.c (p_move (y := .val _) rfl (Sees.of rfl) rfl)) rfl rfl rfl rfl) ?_
  refine dcons (CStep.guard rfl rfl rfl (fun hg0 => PStep.c (p_move (y := .val _) rfl (Sees.of rfl) rfl)) rfl rfl rfl rfl rfl) ?_
  refine dcons (CStep.guard rfl rfl rfl (fun hg0 => PStep.c (p_load rfl wBet_agg24 (Sees.of rfl) rfl)) rfl rfl rfl rfl rfl) ?_
  refine dcons (CStep.guard rfl rfl rfl (fun hg0 => c_call rfl wBet_isf185 ⟨_, _, rfl, (Sees.gv' rfl hg0), rfl, ⟨_, _, rfl, (Sees.gv' rfl hg0), rfl, rfl⟩⟩ (true_spec l x hl)) rfl rfl rfl rfl rfl) ?_
  refine dcons (CStep.step (PStep.c (p_and rfl (Sees.of rfl) (fun h => Sees.gv' rfl (beq_of_eq h)) (Sees.of rfl))) rfl rfl rfl rfl) ?_
  refine dcons (CStep.step (PStep.c (p_assign (y := .val _) rfl (Sees.of rfl) rfl)) rfl rfl rfl rfl) ?_
  refine dnil (by kernel_rfl) ?_
  refine f_ret ?_
  refine ends_ret (res_eq (res1 rfl (res_tmp rfl (Sees.of rfl))) ?_)
  rfl

theorem mcf1_spec (n : Nat) (a : List (List Int)) (m : Nat) (b : List (List Int)) (c : List Int) (x : List Bool) (hx : x.length = n) (hn : n ≤ 16) (hg : ∀ l ∈ c, l ≠ 0 ∧ -(n : Int) ≤ l ∧ l ≤ n) :
    Spec Go.Proofs.Try.prog 226 [.val (bools x), .ptr (ints c), .ptr (.agg (.cons (di n) (.cons (intss a) (.cons (di m) (.cons (intss b) .nil)))))] (D.bool (Sp.mcF b c x)) := by
  refine spec_of' Go.Proofs.Try.func226 rfl Go.Proofs.Try.ntmps226 rfl ?_
  refine f_seq ?_
  refine f_region ?_
  refine scons (r_box (ob := 10003) rfl (Sees.of rfl) rfl rfl rfl rfl rfl rfl) ?_
  refine scons (CStep.step (PStep.c (p_assign (y := .val _) rfl (Sees.of rfl) rfl)) rfl rfl rfl rfl) ?_
  refine snil ?_
  refine f_seq ?_
  refine f_region ?_
  refine scons (CStep.step (PStep.c (p_load rfl wBet_agg33 (Sees.of rfl) rfl)) rfl rfl rfl rfl) ?_
  refine scons (CStep.step (PStep.c (p_makeFunc (l := [.tmp 2, .tmp 3]) rfl)) rfl rfl rfl rfl) ?_
  refine scons (CStep.step (c_callS (q := true) rfl wBet_isf153 (containsI_spec c (fun l => Sp.occ b (Sp.av l) && Sp.lit x l) (fun l => l ≠ 0 ∧ -(n : Int) ≤ l ∧ l ≤ n) hg) (sa_cons (sh_of (Sees.of rfl) rfl) (sa_cons (sh_clo (Sees.of rfl) wBet_isf227 (sl_cons (sh_of Sees.same rfl) (sl_cons (sh_ref1 Sees.same rfl rfl (sh_of Sees.same rfl)) (sl_nil))) (fun _ => rfl) (fun _ => rfl) (fun y => mcf11_spec n a m b x y.1 (by rw [hx]; exact y.2) (by omega))) (sa_nil))) rfl) rfl rfl rfl rfl) ?_
  refine scons (CStep.step (PStep.c (p_assign (y := .val _) rfl (Sees.of rfl) rfl)) rfl rfl rfl rfl) ?_
  refine snil ?_
  refine f_ret ?_
  refine ends_ret (res_eq (res1 rfl (res_tmp rfl (Sees.of rfl))) ?_)
  rfl

theorem mcFirst_spec (n : Nat) (a : List (List Int)) (m : Nat) (b : List (List Int)) (c : List Int) (hn : n ≤ 16) (hg : ∀ l ∈ c, l ≠ 0 ∧ -(n : Int) ≤ l ∧ l ≤ n) :
    SpecN Go.Proofs.Try.prog 223 [.val (.agg (.cons (di n) (.cons (intss a) (.cons (di m) (.cons (intss b) .nil))))), .val (ints c)] 5 1 1 dby (Sp.btab (Sp.mcF b c) n) := by
  refine specN_of' Go.Proofs.Try.func223 rfl Go.Proofs.Try.ntmps223 rfl ?_
  refine f_seq ?_
  refine f_region ?_
  refine scons (r_box (ob := 10002) rfl (Sees.of rfl) rfl rfl rfl rfl rfl rfl) ?_
  refine scons (r_box (ob := 10003) rfl (Sees.of rfl) rfl rfl rfl rfl rfl rfl) ?_
  refine scons (CStep.step (PStep.c (p_assign (y := .emp) rfl (Sees.of rfl) rfl)) rfl rfl rfl rfl) ?_
  refine snil ?_
  refine f_seq ?_
  refine f_region ?_
  refine scons (CStep.step (PStep.c (p_fieldRef rfl wBet_fld130_0 wBet_siz39 rfl (Sees.of rfl) rfl)) rfl rfl rfl rfl) ?_
  refine scons (CStep.step (PStep.c (p_fieldRef rfl wBet_fld39_0 wBet_siz3 rfl (Sees.of rfl) rfl)) rfl rfl rfl rfl) ?_
  refine scons (CStep.step (PStep.c (p_loadB (y := .val _) rfl wBet_agg3 (Sees.of rfl) rfl rfl rfl rfl)) rfl rfl rfl rfl) ?_
  refine scons (CStep.step (PStep.c (p_makeFunc (l := [.tmp 3, .tmp 2]) rfl)) rfl rfl rfl rfl) ?_
  refine scons (r_callS (q := true) (ob := 10009) 0 rfl wBet_isf131 (Made_spec n (Sp.mcF b c) hn) (sa_cons (sh_of (Sees.of rfl) rfl) (sa_cons (sh_clo (Sees.of rfl) wBet_isf226 (sl_cons (sh_ref1 Sees.same rfl rfl (sh_of Sees.same rfl)) (sl_cons (sh_refS Sees.same rfl (shc_cons (sh_of Sees.same rfl) (shc_cons (sh_of Sees.same rfl) (shc_cons (sh_of Sees.same rfl) (shc_cons (sh_of Sees.same rfl) (shc_nil)))))) (sl_nil))) (fun _ => rfl) (fun _ => rfl) (fun y => mcf1_spec n a m b c y.1 y.2 hn hg)) (sa_nil))) (.inr (fun _ => rfl)) rfl rfl rfl rfl rfl) ?_
  refine scons (CStep.step (PStep.c (p_assign (y := .row _ _) rfl (Sees.of rfl) rfl)) rfl rfl rfl rfl) ?_
  refine snil ?_
  refine f_ret ?_
  refine endsN_ret (resN_eq (resN_row rfl rfl rfl rfl) ?_)
  rfl

theorem mcSecond_spec (n : Nat) (a : List (List Int)) (m : Nat) (b : List (List Int)) (hn : n ≤ 16) :
    SpecN Go.Proofs.Try.prog 224 [.val (.agg (.cons (di n) (.cons (intss a) (.cons (di m) (.cons (intss b) .nil)))))] 5 1 1 dby (Sp.btab (fun _ => true) n) := by
  refine specN_of' Go.Proofs.Try.func224 rfl Go.Proofs.Try.ntmps224 rfl ?_
  refine f_seq ?_
  refine f_region ?_
  refine scons (r_box (ob := 10001) rfl (Sees.of rfl) rfl rfl rfl rfl rfl rfl) ?_
  refine scons (CStep.step (PStep.c (p_assign (y := .emp) rfl (Sees.of rfl) rfl)) rfl rfl rfl rfl) ?_
  refine snil ?_
  refine f_seq ?_
  refine f_region ?_
  refine scons (CStep.step (PStep.c (p_fieldRef rfl wBet_fld130_0 wBet_siz39 rfl (Sees.of rfl) rfl)) rfl rfl rfl rfl) ?_
  refine scons (CStep.step (PStep.c (p_fieldRef rfl wBet_fld39_0 wBet_siz3 rfl (Sees.of rfl) rfl)) rfl rfl rfl rfl) ?_
  refine scons (CStep.step (PStep.c (p_loadB (y := .val _) rfl wBet_agg3 (Sees.of rfl) rfl rfl rfl rfl)) rfl rfl rfl rfl) ?_
  refine scons (r_callS (q := false) (ob := 10006) 0 rfl wBet_isf228 (constant_spec n true hn) (sa_cons (sh_of (Sees.of rfl) rfl) (sa_cons (sh_of (Sees.of rfl) rfl) (sa_nil))) (.inl rfl) rfl rfl rfl rfl rfl) ?_
  refine scons (CStep.step (PStep.c (p_assign (y := .row _ _) rfl (Sees.of rfl) rfl)) rfl rfl rfl rfl) ?_
  refine snil ?_
  refine f_ret ?_
  refine endsN_ret (resN_eq (resN_row rfl rfl rfl rfl) ?_)
  rfl

theorem mcBoth_spec (n : Nat) (a : List (List Int)) (m : Nat) (b : List (List Int)) (v : Int) (p q : List Bool → Bool) (hn : n ≤ 16) (hv : -9223372036854775808 < v ∧ v ≤ 9223372036854775807) :
    SpecN Go.Proofs.Try.prog 222 [.val (.agg (.cons (di n) (.cons (intss a) (.cons (di m) (.cons (intss b) .nil))))), iv v, .val (bytes (Sp.btab p n)), .val (bytes (Sp.btab q n))] 5 1 1 dby (Sp.btab (fun x => if Sp.occ b v = true then p x && q x else p x || q x) n) := by
  refine specN_of' Go.Proofs.Try.func222 rfl Go.Proofs.Try.ntmps222 rfl ?_
  refine f_seq ?_
  refine f_region ?_
  refine scons (r_box (ob := 10004) rfl (Sees.of rfl) rfl rfl rfl rfl rfl rfl) ?_
  refine scons (CStep.step (PStep.c (p_assign (y := .emp) rfl (Sees.of rfl) rfl)) rfl rfl rfl rfl) ?_
  refine snil ?_
  refine f_seq ?_
  refine f_seq ?_
  refine f_region ?_
  refine scons (CStep.step (PStep.c (p_fieldRef rfl wBet_fld130_1 wBet_siz39 rfl (Sees.of rfl) rfl)) rfl rfl rfl rfl) ?_
  refine scons (CStep.step (PStep.c (p_loadBSO rfl wBet_agg39 wBet_siz39 (Sees.of rfl) rfl rfl rfl rfl)) rfl rfl rfl rfl) ?_
  refine scons (CStep.step (PStep.c (p_move (y := .val _) rfl (Sees.of rfl) rfl)) rfl rfl rfl rfl) ?_
  refine scons (CStep.step (c_call rfl wBet_isf137 ⟨_, _, rfl, (Sees.of rfl), rfl, ⟨_, _, rfl, (Sees.of rfl), rfl, rfl⟩⟩ (occurs_spec m b v hv)) rfl rfl rfl rfl) ?_
  refine snil ?_
  refine f_cond rfl ?_ ?_
  · intro hc1
    try simp only [bs] at hc1
    refine f_seq ?_
    refine f_region ?_
    refine scons (CStep.step (PStep.c (p_move (y := .val _) rfl (Sees.of rfl) rfl)) rfl rfl rfl rfl) ?_
    refine scons (CStep.step (PStep.c (p_move (y := .val _) rfl (Sees.of rfl) rfl)) rfl rfl rfl rfl) ?_
    refine scons (r_callS (q := false) (ob := 10015) 0 rfl wBet_isf225 (Combined_spec n 8 p q hn (by omega)) (sa_cons (sh_of (Sees.of rfl) rfl) (sa_cons (sh_of (Sees.of rfl) rfl) (sa_cons (sh_of (Sees.of rfl) rfl) (sa_nil)))) (.inl rfl) rfl rfl rfl rfl rfl) ?_
    refine scons (CStep.step (PStep.c (p_assign (y := .row _ _) rfl (Sees.of rfl) rfl)) rfl rfl rfl rfl) ?_
    refine snil ?_
    refine f_ret ?_
    refine endsN_ret (resN_eq (resN_row rfl rfl rfl rfl) ?_)
    refine congrArg (fun f => Sp.btab f n) (funext fun x => ?_)
    rw [if_pos hc1]
    cases p x <;> cases q x <;> decide
  · intro hc1
    try simp only [bs] at hc1
    refine f_skip ?_
    refine f_seq ?_
    refine f_region ?_
    refine scons (CStep.step (PStep.c (p_move (y := .val _) rfl (Sees.of rfl) rfl)) rfl rfl rfl rfl) ?_
    refine scons (CStep.step (PStep.c (p_move (y := .val _) rfl (Sees.of rfl) rfl)) rfl rfl rfl rfl) ?_
    refine scons (r_callS (q := false) (ob := 10018) 0 rfl wBet_isf225 (Combined_spec n 14 p q hn (by omega)) (sa_cons (sh_of (Sees.of rfl) rfl) (sa_cons (sh_of (Sees.of rfl) rfl) (sa_cons (sh_of (Sees.of rfl) rfl) (sa_nil)))) (.inl rfl) rfl rfl rfl rfl rfl) ?_
    refine scons (CStep.step (PStep.c (p_assign (y := .row _ _) rfl (Sees.of rfl) rfl)) rfl rfl rfl rfl) ?_
    refine snil ?_
    refine f_ret ?_
    refine endsN_ret (resN_eq (resN_row rfl rfl rfl rfl) ?_)
    refine congrArg (fun f => Sp.btab f n) (funext fun x => ?_)
    rw [if_neg (by rw [hc1]; decide)]
    cases p x <;> cases q x <;> decide

theorem puFirst_spec (n : Nat) (a : List (List Int)) (m : Nat) (b : List (List Int)) (c : List Int) (hn : n ≤ 16) :
    SpecN Go.Proofs.Try.prog 231 [.val (.agg (.cons (di n) (.cons (intss a) (.cons (di m) (.cons (intss b) .nil))))), .val (ints c)] 5 1 1 dby (Sp.btab (fun _ => false) n) := by
  refine specN_of' Go.Proofs.Try.func231 rfl Go.Proofs.Try.ntmps231 rfl ?_
  refine f_seq ?_
  refine f_region ?_
  refine scons (r_box (ob := 10002) rfl (Sees.of rfl) rfl rfl rfl rfl rfl rfl) ?_
  refine scons (CStep.step (PStep.c (p_assign (y := .emp) rfl (Sees.of rfl) rfl)) rfl rfl rfl rfl) ?_
  refine snil ?_
  refine f_seq ?_
  refine f_region ?_
  refine scons (CStep.step (PStep.c (p_fieldRef rfl wBet_fld136_0 wBet_siz39 rfl (Sees.of rfl) rfl)) rfl rfl rfl rfl) ?_
  refine scons (CStep.step (PStep.c (p_fieldRef rfl wBet_fld39_0 wBet_siz3 rfl (Sees.of rfl) rfl)) rfl rfl rfl rfl) ?_
  refine scons (CStep.step (PStep.c (p_loadB (y := .val _) rfl wBet_agg3 (Sees.of rfl) rfl rfl rfl rfl)) rfl rfl rfl rfl) ?_
  refine scons (r_callS (q := false) (ob := 10008) 0 rfl wBet_isf228 (constant_spec n false hn) (sa_cons (sh_of (Sees.of rfl) rfl) (sa_cons (sh_of (Sees.of rfl) rfl) (sa_nil))) (.inl rfl) rfl rfl rfl rfl rfl) ?_
  refine scons (CStep.step (PStep.c (p_assign (y := .row _ _) rfl (Sees.of rfl) rfl)) rfl rfl rfl rfl) ?_
  refine snil ?_
  refine f_ret ?_
  refine endsN_ret (resN_eq (resN_row rfl rfl rfl rfl) ?_)
  rfl

theorem puSecond_spec (n : Nat) (a : List (List Int)) (m : Nat) (b : List (List Int)) (hn : n ≤ 16) :
    SpecN Go.Proofs.Try.prog 232 [.val (.agg (.cons (di n) (.cons (intss a) (.cons (di m) (.cons (intss b) .nil)))))] 5 1 1 dby (Sp.btab (fun _ => true) n) := by
  refine specN_of' Go.Proofs.Try.func232 rfl Go.Proofs.Try.ntmps232 rfl ?_
  refine f_seq ?_
  refine f_region ?_
  refine scons (r_box (ob := 10001) rfl (Sees.of rfl) rfl rfl rfl rfl rfl rfl) ?_
  refine scons (CStep.step (PStep.c (p_assign (y := .emp) rfl (Sees.of rfl) rfl)) rfl rfl rfl rfl) ?_
  refine snil ?_
  refine f_seq ?_
  refine f_region ?_
  refine scons (CStep.step (PStep.c (p_fieldRef rfl wBet_fld136_0 wBet_siz39 rfl (Sees.of rfl) rfl)) rfl rfl rfl rfl) ?_
  refine scons (CStep.step (PStep.c (p_fieldRef rfl wBet_fld39_0 wBet_siz3 rfl (Sees.of rfl) rfl)) rfl rfl rfl rfl) ?_
  refine scons (CStep.step (PStep.c (p_loadB (y := .val _) rfl wBet_agg3 (Sees.of rfl) rfl rfl rfl rfl)) rfl rfl rfl rfl) ?_
  refine scons (r_callS (q := false) (ob := 10006) 0 rfl wBet_isf228 (constant_spec n true hn) (sa_cons (sh_of (Sees.of rfl) rfl) (sa_cons (sh_of (Sees.of rfl) rfl) (sa_nil))) (.inl rfl) rfl rfl rfl rfl rfl) ?_
  refine scons (CStep.step (PStep.c (p_assign (y := .row _ _) rfl (Sees.of rfl) rfl)) rfl rfl rfl rfl) ?_
  refine snil ?_
  refine f_ret ?_
  refine endsN_ret (resN_eq (resN_row rfl rfl rfl rfl) ?_)
  rfl

theorem puBoth_spec (n : Nat) (a : List (List Int)) (m : Nat) (b : List (List Int)) (v : Int) (p q : List Bool → Bool) (hn : n ≤ 16) (hv : 1 ≤ v ∧ v ≤ n) :
    SpecN Go.Proofs.Try.prog 230 [.val (.agg (.cons (di n) (.cons (intss a) (.cons (di m) (.cons (intss b) .nil))))), iv v, .val (bytes (Sp.btab p n)), .val (bytes (Sp.btab q n))] 5 1 1 dby (Sp.btab (Sp.puB a b v p q) n) := by
  refine specN_of' Go.Proofs.Try.func230 rfl Go.Proofs.Try.ntmps230 rfl ?_
  refine f_seq ?_
  have hp16 := Sp.pow16 hn
  have hl1 := Sp.btab_len p n
  have hl2 := Sp.btab_len q n
  have hpv : ((n : Int) - v).toNat = n - v.toNat := by omega
  refine f_region ?_
  refine scons (r_box (ob := 10004) rfl (Sees.of rfl) rfl rfl rfl rfl rfl rfl) ?_
  refine scons (CStep.step (PStep.c (p_assign (y := .emp) rfl (Sees.of rfl) rfl)) rfl rfl rfl rfl) ?_
  refine snil ?_
  refine f_seq ?_
  refine f_block ?_
  refine f_seq ?_
  refine f_region ?_
  refine scons (CStep.step (PStep.c (p_fieldRef rfl wBet_fld136_1 wBet_siz39 rfl (Sees.of rfl) rfl)) rfl rfl rfl rfl) ?_
  refine scons (CStep.step (PStep.c (p_loadBSO rfl wBet_agg39 wBet_siz39 (Sees.of rfl) rfl rfl rfl rfl)) rfl rfl rfl rfl) ?_
  refine scons (CStep.step (PStep.c (p_move (y := .val _) rfl (Sees.of rfl) rfl)) rfl rfl rfl rfl) ?_
  refine scons (CStep.step (c_call rfl wBet_isf137 ⟨_, _, rfl, (Sees.of rfl), rfl, ⟨_, _, rfl, (Sees.of rfl), rfl, rfl⟩⟩ (occurs_spec m b v (by omega))) rfl rfl rfl rfl) ?_
  refine scons (CStep.step (PStep.c (p_not rfl (Sees.of rfl))) rfl rfl rfl rfl) ?_
  refine scons (CStep.step (PStep.c (p_assign (y := .val _) rfl (Sees.of rfl) rfl)) rfl rfl rfl rfl) ?_
  refine snil ?_
  refine f_cond rfl ?_ ?_
  · intro hc1
    try simp only [bs] at hc1
    refine f_seq ?_
    refine f_region ?_
    refine scons (CStep.step (PStep.c (p_move (y := .val _) rfl (Sees.of rfl) rfl)) rfl rfl rfl rfl) ?_
    refine scons (CStep.step (PStep.c (p_move (y := .val _) rfl (Sees.of rfl) rfl)) rfl rfl rfl rfl) ?_
    refine scons (r_callS (q := false) (ob := 10019) 0 rfl wBet_isf225 (Combined_spec n 14 p q hn (by omega)) (sa_cons (sh_of (Sees.of rfl) rfl) (sa_cons (sh_of (Sees.of rfl) rfl) (sa_cons (sh_of (Sees.of rfl) rfl) (sa_nil)))) (.inl rfl) rfl rfl rfl rfl rfl) ?_
    refine scons (CStep.step (PStep.c (p_assign (y := .row _ _) rfl (Sees.of rfl) rfl)) rfl rfl rfl rfl) ?_
    refine snil ?_
    refine f_ret ?_
    refine endsN_ret (resN_eq (resN_row rfl rfl rfl rfl) ?_)
    refine congrArg (fun f => Sp.btab f n) (funext fun x => ?_)
    rw [Sp.puB, if_pos hc1]
    cases p x <;> cases q x <;> decide
  · intro hc1
    try simp only [bs] at hc1
    refine f_seq ?_
    refine f_region ?_
    refine scons (CStep.step (PStep.c (p_fieldRef rfl wBet_fld136_0 wBet_siz39 rfl (Sees.of rfl) rfl)) rfl rfl rfl rfl) ?_
    refine scons (CStep.step (PStep.c (p_loadBSO rfl wBet_agg39 wBet_siz39 (Sees.of rfl) rfl rfl rfl rfl)) rfl rfl rfl rfl) ?_
    refine scons (CStep.step (PStep.c (p_move (y := .val _) rfl (Sees.of rfl) rfl)) rfl rfl rfl rfl) ?_
    refine scons (CStep.step (c_call rfl wBet_isf137 ⟨_, _, rfl, (Sees.of rfl), rfl, ⟨_, _, rfl, (Sees.of rfl), rfl, rfl⟩⟩ (occurs_spec n a v (by omega))) rfl rfl rfl rfl) ?_
    refine scons (CStep.step (PStep.c (p_not rfl (Sees.of rfl))) rfl rfl rfl rfl) ?_
    refine scons (CStep.step (PStep.c (p_assign (y := .val _) rfl (Sees.of rfl) rfl)) rfl rfl rfl rfl) ?_
    refine snil ?_
    refine f_cond rfl ?_ ?_
    · intro hc2
      try simp only [bs] at hc2
      refine f_seq ?_
      refine f_region ?_
      refine scons (CStep.step (PStep.c (p_move (y := .val _) rfl (Sees.of rfl) rfl)) rfl rfl rfl rfl) ?_
      refine scons (CStep.step (PStep.c (p_move (y := .val _) rfl (Sees.of rfl) rfl)) rfl rfl rfl rfl) ?_
      refine scons (r_callS (q := false) (ob := 10028) 0 rfl wBet_isf225 (Combined_spec n 8 p q hn (by omega)) (sa_cons (sh_of (Sees.of rfl) rfl) (sa_cons (sh_of (Sees.of rfl) rfl) (sa_cons (sh_of (Sees.of rfl) rfl) (sa_nil)))) (.inl rfl) rfl rfl rfl rfl rfl) ?_
      refine scons (CStep.step (PStep.c (p_assign (y := .row _ _) rfl (Sees.of rfl) rfl)) rfl rfl rfl rfl) ?_
      refine snil ?_
      refine f_ret ?_
      refine endsN_ret (resN_eq (resN_row rfl rfl rfl rfl) ?_)
      refine congrArg (fun f => Sp.btab f n) (funext fun x => ?_)
      rw [Sp.puB, if_neg (by rw [hc1]; decide), if_pos hc2]
      cases p x <;> cases q x <;> decide
    · intro hc2
      try simp only [bs] at hc2
      refine f_skip ?_
      refine f_nil ?_
      show AWs _ _ _ _ _
      refine f_seq ?_
      refine f_region ?_
      refine scons (CStep.step (PStep.c (p_move (y := .val _) rfl (Sees.of rfl) rfl)) rfl rfl rfl rfl) ?_
      refine scons (r_callS (q := false) (ob := 10030) 0 rfl wBet_isf164 (cloneT_spec (Sp.btab p n)) (sa_cons (sh_of (Sees.of rfl) rfl) (sa_nil)) (.inl rfl) rfl rfl rfl rfl rfl) ?_
      refine scons (CStep.step (PStep.c (p_assign (y := .row _ _) rfl (Sees.of rfl) rfl)) rfl rfl rfl rfl) ?_
      refine snil ?_
      refine f_seq ?_
      refine f_seq ?_
      refine f_region ?_
      refine scons (CStep.step (PStep.c (p_move (y := .row _ _) rfl (Sees.of rfl) rfl)) rfl rfl rfl rfl) ?_
      refine scons (CStep.step (PStep.c (p_lenR rfl wBet_isl141 (Sees.of rfl) rfl)) rfl rfl rfl rfl) ?_
      refine scons (CStep.step (PStep.c (p_move (y := .val _) rfl (Sees.of rfl) rfl)) rfl rfl rfl rfl) ?_
      refine snil ?_
      refine f_block ?_
      refine f_loop (α := Nat) (fun i => i ≤ 2 ^ n) (fun i => [(4, .ref 10004 0 0), (10004, .box 0 (.ccons (iv n) (.ccons (.val (intss a)) (.ccons (iv m) (.ccons (.val (intss b)) .cnil))))), (1, iv v), (3, .val (bytes (Sp.btab q n))), (33, iv i), (32, iv (2 ^ n : Nat)), (9, .row 10030 0), (10030, .arr 0 5 1 1 dby 0 (Sp.fillTo (2 ^ n) (fun k : Nat => Sp.b01 (p (Sp.bits n k))) (fun k : Nat => Sp.b01 ((Sp.puB a b v p q) (Sp.bits n k))) i)), (8, .emp)]) (fun i => 2 ^ n - i) 0 ?_ ?_ ?_
      · exact Nat.zero_le _
      · exact le_ofL ⟨rfl, rfl, rfl, rfl, rfl, (by rw [← Sp.btab_len p n]; rfl), rfl, (by rw [Sp.fill_zero, ← Sp.btab_map]; rfl), rfl, trivial⟩ rfl
      · rintro i hi
        have hi : i ≤ 2 ^ n := hi
        have hfl := Sp.fill_len (2 ^ n) (fun k : Nat => Sp.b01 (p (Sp.bits n k))) (fun k : Nat => Sp.b01 ((Sp.puB a b v p q) (Sp.bits n k))) i
        refine f_seq ?_
        refine f_region ?_
        refine scons (CStep.step (PStep.c (p_lss rfl (Sees.of rfl) (Sees.of rfl))) rfl rfl rfl rfl) ?_
        refine snil ?_
        refine f_seq ?_
        refine f_cond rfl ?_ ?_
        · intro hc3
          try simp only [bs] at hc3
          refine f_skip ?_
          refine f_seq ?_
          refine f_block ?_
          refine f_seq ?_
          refine f_region ?_
          refine scons (CStep.step (PStep.c (p_move (y := .val _) rfl (Sees.of rfl) rfl)) rfl rfl rfl rfl) ?_
          refine scons (CStep.step (PStep.c (p_assign (y := .val _) rfl (Sees.of rfl) rfl)) rfl rfl rfl rfl) ?_
          refine snil ?_
          refine f_seq ?_
          have hbt := Sp.bit_at (n := n) (i := i) hv
          have hqa := Sp.btab_at q n i (by omega)
          refine f_region ?_
          refine scons (CStep.step (PStep.c (p_move (y := .val _) rfl (Sees.of rfl) rfl)) rfl rfl rfl rfl) ?_
          refine scons (CStep.step (PStep.c (p_fieldRef rfl wBet_fld136_0 wBet_siz39 rfl (Sees.of rfl) rfl)) rfl rfl rfl rfl) ?_
          refine scons (CStep.step (PStep.c (p_fieldRef rfl wBet_fld39_0 wBet_siz3 rfl (Sees.of rfl) rfl)) rfl rfl rfl rfl) ?_
          refine scons (CStep.step (PStep.c (p_loadB (y := .val _) rfl wBet_agg3 (Sees.of rfl) rfl rfl rfl rfl)) rfl rfl rfl rfl) ?_
          refine scons (CStep.step (PStep.c (p_move (y := .val _) rfl (Sees.of rfl) rfl)) rfl rfl rfl rfl) ?_
          refine scons (CStep.step (PStep.c (p_sub rfl (Sees.of rfl) (Sees.of rfl) (by omega))) rfl rfl rfl rfl) ?_
          refine scons (CStep.step (PStep.c (p_shr rfl (Sees.of rfl) (Sees.of rfl) (by omega) (by omega))) rfl rfl rfl rfl) ?_
          refine scons (CStep.step (PStep.c (p_and1 rfl (Sees.of rfl) (Sees.of rfl))) rfl rfl rfl rfl) ?_
          refine scons (CStep.step (PStep.c (p_eql rfl (Sees.of rfl) (Sees.of rfl))) rfl rfl rfl rfl) ?_
          refine snil ?_
          refine f_cond rfl ?_ ?_
          · intro hc4
            try simp only [bs] at hc4
            refine f_region ?_
            refine scons (CStep.step (PStep.c (p_move (y := .row _ _) rfl (Sees.of rfl) rfl)) rfl rfl rfl rfl) ?_
            refine scons (CStep.step (PStep.c (p_move (y := .val _) rfl (Sees.of rfl) rfl)) rfl rfl rfl rfl) ?_
            refine scons (CStep.step (PStep.c (p_move (y := .val _) rfl (Sees.of rfl) rfl)) rfl rfl rfl rfl) ?_
            refine scons (CStep.step (PStep.c (p_move (y := .val _) rfl (Sees.of rfl) rfl)) rfl rfl rfl rfl) ?_
            refine scons (CStep.step (PStep.c ((by first | exact p_indexN rfl wBet_isl141 wBet_siz5 (Sees.of rfl) (Sees.of rfl) (by rw [hl2]; omega) | exact p_index rfl wBet_isl141 wBet_siz5 (Sees.of rfl) (Sees.of rfl) (by omega) (by rw [hl2]; omega)))) rfl rfl rfl rfl) ?_
            refine scons (CStep.step (PStep.c (p_load rfl wBet_agg5 (Sees.of rfl) rfl)) rfl rfl rfl rfl) ?_
            refine scons (CStep.step (PStep.c ((by first | exact p_indexR rfl wBet_isl141 wBet_siz5 (Sees.of rfl) rfl (Sees.of rfl) (by rw [hfl]; omega) | exact p_indexRZ rfl wBet_isl141 wBet_siz5 (Sees.of rfl) rfl (Sees.of rfl) (by omega) (by rw [hfl]; omega)))) rfl rfl rfl rfl) ?_
            refine scons (r_storeE rfl wBet_siz5 rfl rfl rfl (Sees.of rfl) rfl (by rw [hfl]; omega) (Sees.of rfl) rfl) ?_
            refine snil ?_
            refine f_nil ?_
            show AWs _ _ _ _ _
            refine f_region ?_
            refine scons (CStep.step (PStep.c (p_add rfl (Sees.of rfl) (Sees.of rfl) (by omega))) rfl rfl rfl rfl) ?_
            refine scons (CStep.step (PStep.c (p_move (y := .val _) rfl (Sees.of rfl) rfl)) rfl rfl rfl rfl) ?_
            refine snil ?_
            refine f_back ⟨i + 1, ?_, ?_, le_ofL ⟨rfl, rfl, rfl, rfl, rfl, rfl, rfl, (by rw [← Sp.fill_to (x := (Sp.btab q n).getD i 0) (by omega) (by rw [hqa]; show Sp.b01 (Sp.puB a b v p q (Sp.bits n i)) = _; rw [Sp.puB, if_neg (by rw [hc1]; decide), if_neg (by rw [hc2]; decide), hbt, if_pos (decide_eq_true (by rw [hpv] at hc4; exact hc4))])]; rfl), rfl, trivial⟩ rfl⟩
            · omega
            · omega
          · intro hc4
            try simp only [bs] at hc4
            refine f_skip ?_
            refine f_nil ?_
            show AWs _ _ _ _ _
            refine f_region ?_
            refine scons (CStep.step (PStep.c (p_add rfl (Sees.of rfl) (Sees.of rfl) (by omega))) rfl rfl rfl rfl) ?_
            refine scons (CStep.step (PStep.c (p_move (y := .val _) rfl (Sees.of rfl) rfl)) rfl rfl rfl rfl) ?_
            refine snil ?_
            refine f_back ⟨i + 1, ?_, ?_, le_ofL ⟨rfl, rfl, rfl, rfl, rfl, rfl, rfl, (by rw [Sp.fill_same (by show Sp.b01 (Sp.puB a b v p q (Sp.bits n i)) = _; rw [Sp.puB, if_neg (by rw [hc1]; decide), if_neg (by rw [hc2]; decide), hbt, if_neg (by rw [decide_eq_true_eq]; rw [hpv] at hc4; exact hc4)])]; rfl), rfl, trivial⟩ rfl⟩
            · omega
            · omega
        · intro hc3
          try simp only [bs] at hc3
          refine f_exit ?_
          show AWs _ _ _ _ _
          refine f_seq ?_
          refine f_region ?_
          refine scons (CStep.step (PStep.c (p_move (y := .row _ _) rfl (Sees.of rfl) rfl)) rfl rfl rfl rfl) ?_
          refine scons (CStep.step (PStep.c (p_assign (y := .row _ _) rfl (Sees.of rfl) rfl)) rfl rfl rfl rfl) ?_
          refine snil ?_
          refine f_ret ?_
          refine endsN_ret (resN_eq (resN_row rfl rfl rfl rfl) ?_)
          rw [Sp.fill_end _ _ (by omega), Sp.btab_map]

theorem some1_spec (n : Nat) (a : List (List Int)) (x : List Bool) (hx : x.length = n) (hga : ∀ l ∈ a, Sp.Good n l) :
    Spec Go.Proofs.Try.prog 136 [.val (bools x), .ptr (cnf n a)] (D.bool (Sp.all x a)) := by
  refine spec_of' Go.Proofs.Try.func136 rfl Go.Proofs.Try.ntmps136 rfl ?_
  refine f_seq ?_
  refine f_region ?_
  refine scons (CStep.step (PStep.c (p_assign (y := .val _) rfl (Sees.of rfl) rfl)) rfl rfl rfl rfl) ?_
  refine snil ?_
  refine f_seq ?_
  refine f_region ?_
  refine scons (CStep.step (PStep.c (p_fieldAddr rfl wBet_fld39_1 wBet_siz37 (by decide) (Sees.of rfl) rfl rfl)) rfl rfl rfl rfl) ?_
  refine scons (CStep.step (PStep.c (p_load rfl wBet_agg37 (Sees.of rfl) rfl)) rfl rfl rfl rfl) ?_
  refine scons (CStep.step (PStep.c (p_move (y := .val _) rfl (Sees.of rfl) rfl)) rfl rfl rfl rfl) ?_
  refine scons (CStep.step (c_call rfl wBet_isf133 ⟨_, _, rfl, (Sees.of rfl), rfl, ⟨_, _, rfl, (Sees.of rfl), rfl, rfl⟩⟩ (call_spec a x (by rw [hx]; exact hga))) rfl rfl rfl rfl) ?_
  refine scons (CStep.step (PStep.c (p_assign (y := .val _) rfl (Sees.of rfl) rfl)) rfl rfl rfl rfl) ?_
  refine snil ?_
  refine f_ret ?_
  refine ends_ret (res_eq (res1 rfl (res_tmp rfl (Sees.of rfl))) ?_)
  rfl

theorem some_specB (n : Nat) (a : List (List Int)) (m : Nat) (b : List (List Int)) (hn : n ≤ 16) (hga : ∀ l ∈ a, Sp.Good n l) :
    SpecN Go.Proofs.Try.prog 94 [.val (cnf n a), .val (cnf m b)] 5 1 1 dby (Sp.btab (Sp.someT b (fun x => Sp.all x a) n) n) := by
  refine specN_of' Go.Proofs.Try.func94 rfl Go.Proofs.Try.ntmps94 rfl ?_
  refine f_seq ?_
  refine f_region ?_
  refine scons (r_box (ob := 10002) rfl (Sees.of rfl) rfl rfl rfl rfl rfl rfl) ?_
  refine scons (r_box (ob := 10003) rfl (Sees.of rfl) rfl rfl rfl rfl rfl rfl) ?_
  refine scons (CStep.step (PStep.c (p_assign (y := .emp) rfl (Sees.of rfl) rfl)) rfl rfl rfl rfl) ?_
  refine snil ?_
  refine f_seq ?_
  refine f_region ?_
  refine scons (CStep.step (PStep.c (p_fieldRef rfl wBet_fld39_0 wBet_siz3 rfl (Sees.of rfl) rfl)) rfl rfl rfl rfl) ?_
  refine scons (CStep.step (PStep.c (p_loadB (y := .val _) rfl wBet_agg3 (Sees.of rfl) rfl rfl rfl rfl)) rfl rfl rfl rfl) ?_
  refine scons (CStep.step (PStep.c (p_makeFunc (l := [.tmp 2]) rfl)) rfl rfl rfl rfl) ?_
  refine scons (r_callS (q := true) (ob := 30000) 0 rfl wBet_isf131 (Made_spec n (fun x => Sp.all x a) hn) (sa_cons (sh_of (Sees.of rfl) rfl) (sa_cons (sh_clo (Sees.of rfl) wBet_isf136 (sl_cons (sh_refS Sees.same rfl (shc_cons (sh_of Sees.same rfl) (shc_cons (sh_of Sees.same rfl) (shc_nil)))) (sl_nil)) (fun _ => rfl) (fun _ => rfl) (fun y => some1_spec n a y.1 y.2 hga)) (sa_nil))) (.inr (fun _ => rfl)) rfl rfl rfl rfl rfl) ?_
  refine scons (CStep.step (PStep.c (p_assign (y := .row _ _) rfl (Sees.of rfl) rfl)) rfl rfl rfl rfl) ?_
  refine snil ?_
  refine f_seq ?_
  refine f_seq ?_
  refine f_region ?_
  refine scons (CStep.step (PStep.c (p_assign (y := .val _) rfl (Sees.of rfl) rfl)) rfl rfl rfl rfl) ?_
  refine snil ?_
  refine f_block ?_
  refine f_loop (α := Nat × Nat) (fun (i, u) => i ≤ n) (fun (i, u) => [(2, .ref 10002 0 0), (10002, .box 0 (.ccons (iv n) (.ccons (.val (intss a)) .cnil))), (3, .ref 10003 0 0), (10003, .box 0 (.ccons (iv m) (.ccons (.val (intss b)) .cnil))), (6, iv ((i : Int) + 1)), (5, .row 30000 u), (30000, .arr u 5 1 1 dby 0 (Sp.btab (Sp.someT b (fun x => Sp.all x a) i) n)), (4, .emp)]) (fun (i, u) => n - i) (0, 0) ?_ ?_ ?_
  · exact Nat.zero_le _
  · exact le_ofL ⟨rfl, rfl, rfl, rfl, (by simp; rfl), rfl, rfl, rfl, trivial⟩ rfl
  · rintro ⟨i, u⟩ hi
    have hi : i ≤ n := hi
    refine f_seq ?_
    refine f_seq ?_
    refine f_region ?_
    refine scons (CStep.step (PStep.c (p_move (y := .val _) rfl (Sees.of rfl) rfl)) rfl rfl rfl rfl) ?_
    refine scons (CStep.step (PStep.c (p_fieldRef rfl wBet_fld39_0 wBet_siz3 rfl (Sees.of rfl) rfl)) rfl rfl rfl rfl) ?_
    refine scons (CStep.step (PStep.c (p_loadB (y := .val _) rfl wBet_agg3 (Sees.of rfl) rfl rfl rfl rfl)) rfl rfl rfl rfl) ?_
    refine scons (CStep.step (PStep.c (p_leq rfl (Sees.of rfl) (Sees.of rfl))) rfl rfl rfl rfl) ?_
    refine snil ?_
    refine f_cond rfl ?_ ?_
    · intro hc1
      try simp only [bs] at hc1
      refine f_skip ?_
      refine f_seq ?_
      refine f_block ?_
      refine f_seq ?_
      refine f_region ?_
      refine scons (CStep.step (PStep.c (p_loadBS rfl wBet_agg39 wBet_siz39 (Sees.of rfl) rfl rfl rfl)) rfl rfl rfl rfl) ?_
      refine scons (CStep.step (PStep.c (p_move (y := .val _) rfl (Sees.of rfl) rfl)) rfl rfl rfl rfl) ?_
      refine scons (CStep.step (c_call rfl wBet_isf137 ⟨_, _, rfl, (Sees.of rfl), rfl, ⟨_, _, rfl, (Sees.of rfl), rfl, rfl⟩⟩ (occurs_spec m b ((i : Int) + 1) (by omega))) rfl rfl rfl rfl) ?_
      refine scons (CStep.step (PStep.c (p_not rfl (Sees.of rfl))) rfl rfl rfl rfl) ?_
      refine snil ?_
      refine f_cond rfl ?_ ?_
      · intro hc2
        try simp only [bs] at hc2
        refine f_region ?_
        refine scons (CStep.step (PStep.c (p_move (y := .row _ _) rfl (Sees.of rfl) rfl)) rfl rfl rfl rfl) ?_
        refine scons (CStep.step (PStep.c (p_fieldRef rfl wBet_fld39_0 wBet_siz3 rfl (Sees.of rfl) rfl)) rfl rfl rfl rfl) ?_
        refine scons (CStep.step (PStep.c (p_loadB (y := .val _) rfl wBet_agg3 (Sees.of rfl) rfl rfl rfl rfl)) rfl rfl rfl rfl) ?_
        refine scons (CStep.step (PStep.c (p_move (y := .val _) rfl (Sees.of rfl) rfl)) rfl rfl rfl rfl) ?_
        refine scons (r_callS (q := true) (ob := 30000) 0 rfl wBet_isf138 (Forget_spec n (Sp.someT b (fun x => Sp.all x a) i) ((i : Int) + 1) hn (by omega)) (sa_cons (sh_row (Sees.of rfl) rfl) (sa_cons (sh_of (Sees.of rfl) rfl) (sa_cons (sh_of (Sees.of rfl) rfl) (sa_nil)))) (.inr (fun _ => rfl)) rfl rfl rfl rfl rfl) ?_
        refine scons (CStep.step (PStep.c (p_assign (y := .row _ _) rfl (Sees.of rfl) rfl)) rfl rfl rfl rfl) ?_
        refine snil ?_
        refine f_nil ?_
        show AWs _ _ _ _ _
        refine f_region ?_
        refine scons (CStep.step (PStep.c (p_move (y := .val _) rfl (Sees.of rfl) rfl)) rfl rfl rfl rfl) ?_
        refine scons (CStep.step (PStep.c (p_add rfl (Sees.of rfl) (Sees.of rfl) (by omega))) rfl rfl rfl rfl) ?_
        refine scons (CStep.step (PStep.c (p_assign (y := .val _) rfl (Sees.of rfl) rfl)) rfl rfl rfl rfl) ?_
        refine snil ?_
        refine f_back ⟨(i + 1, u + 1), ?_, ?_, le_ofL ⟨rfl, rfl, rfl, rfl, (by show AV.val (.int .i64 ((i : Int) + 1 + 1)) = _; exact congrArg (fun q => AV.val (.int .i64 q)) (by omega)), rfl, (by rw [Sp.someT, if_pos hc2]; rfl), rfl, trivial⟩ rfl⟩
        · show i + 1 ≤ n
          omega
        · show n - (i + 1) < n - i
          omega
      · intro hc2
        try simp only [bs] at hc2
        refine f_skip ?_
        refine f_nil ?_
        show AWs _ _ _ _ _
        refine f_region ?_
        refine scons (CStep.step (PStep.c (p_move (y := .val _) rfl (Sees.of rfl) rfl)) rfl rfl rfl rfl) ?_
        refine scons (CStep.step (PStep.c (p_add rfl (Sees.of rfl) (Sees.of rfl) (by omega))) rfl rfl rfl rfl) ?_
        refine scons (CStep.step (PStep.c (p_assign (y := .val _) rfl (Sees.of rfl) rfl)) rfl rfl rfl rfl) ?_
        refine snil ?_
        refine f_back ⟨(i + 1, u), ?_, ?_, le_ofL ⟨rfl, rfl, rfl, rfl, (by show AV.val (.int .i64 ((i : Int) + 1 + 1)) = _; exact congrArg (fun q => AV.val (.int .i64 q)) (by omega)), rfl, (by rw [Sp.someT, if_neg (by rw [hc2]; decide)]; rfl), rfl, trivial⟩ rfl⟩
        · show i + 1 ≤ n
          omega
        · show n - (i + 1) < n - i
          omega
    · intro hc1
      try simp only [bs] at hc1
      refine f_exit ?_
      show AWs _ _ _ _ _
      refine f_seq ?_
      obtain rfl : i = n := by omega
      refine f_region ?_
      refine scons (CStep.step (PStep.c (p_move (y := .row _ _) rfl (Sees.of rfl) rfl)) rfl rfl rfl rfl) ?_
      refine scons (CStep.step (PStep.c (p_assign (y := .row _ _) rfl (Sees.of rfl) rfl)) rfl rfl rfl rfl) ?_
      refine snil ?_
      refine f_ret ?_
      refine endsN_ret (resN_eq (resN_row rfl rfl rfl rfl) ?_)
      rfl

theorem idxB_spec (l : List Int) (x : Int) :
    Spec Go.Proofs.Try.prog 162 [.val (bytes l), .val (.int .u8 x)] (di (Sp.idx (fun y => decide (y = x)) l)) := by
  refine spec_of' Go.Proofs.Try.func162 rfl Go.Proofs.Try.ntmps162 rfl ?_
  refine f_seq ?_
  refine f_wf (.tmp 0) rfl (fun hwf => ?_) (by simp)
  have hlen : l.length ≤ 140737488355328 := hwf.1
  clear hwf
  refine f_region ?_
  refine scons (CStep.step (PStep.c (p_assign (y := .val _) rfl (Sees.of rfl) rfl)) rfl rfl rfl rfl) ?_
  refine snil ?_
  refine f_seq ?_
  refine f_seq ?_
  refine f_region ?_
  refine scons (CStep.step (PStep.c (p_move (y := .val _) rfl (Sees.of rfl) rfl)) rfl rfl rfl rfl) ?_
  refine scons (CStep.step (PStep.c (p_len rfl wBet_isl141 (Sees.of rfl))) rfl rfl rfl rfl) ?_
  refine scons (CStep.step (PStep.c (p_move (y := .val _) rfl (Sees.of rfl) rfl)) rfl rfl rfl rfl) ?_
  refine snil ?_
  refine f_block ?_
  refine f_loop (α := Nat) (fun i => i ≤ l.length ∧ ∀ y ∈ l.take i, decide (y = x) = false) (fun i => [(8, iv i), (0, .val (bytes l)), (1, .val (.int .u8 x)), (7, iv l.length)]) (fun i => l.length - i) 0 ?_ ?_ ?_
  · exact ⟨Nat.zero_le _, by simp⟩
  · exact le_ofL ⟨rfl, rfl, rfl, rfl, trivial⟩ rfl
  · rintro i ⟨hi, hp⟩
    refine f_seq ?_
    refine f_region ?_
    refine scons (CStep.step (PStep.c (p_lss rfl (Sees.of rfl) (Sees.of rfl))) rfl rfl rfl rfl) ?_
    refine snil ?_
    refine f_seq ?_
    refine f_cond rfl ?_ ?_
    · intro hc1
      try simp only [bs] at hc1
      refine f_skip ?_
      refine f_seq ?_
      refine f_block ?_
      refine f_seq ?_
      refine f_region ?_
      refine scons (CStep.step (PStep.c (p_move (y := .val _) rfl (Sees.of rfl) rfl)) rfl rfl rfl rfl) ?_
      refine scons (CStep.step (PStep.c (p_assign (y := .val _) rfl (Sees.of rfl) rfl)) rfl rfl rfl rfl) ?_
      refine snil ?_
      refine f_seq ?_
      refine f_region ?_
      refine scons (CStep.step (PStep.c (p_move (y := .val _) rfl (Sees.of rfl) rfl)) rfl rfl rfl rfl) ?_
      refine scons (CStep.step (PStep.c (p_move (y := .val _) rfl (Sees.of rfl) rfl)) rfl rfl rfl rfl) ?_
      refine scons (CStep.step (PStep.c (p_move (y := .val _) rfl (Sees.of rfl) rfl)) rfl rfl rfl rfl) ?_
      refine scons (CStep.step (PStep.c ((by first | exact p_indexN rfl wBet_isl141 wBet_siz5 (Sees.of rfl) (Sees.of rfl) (by omega) | exact p_index rfl wBet_isl141 wBet_siz5 (Sees.of rfl) (Sees.of rfl) (by omega) (by omega)))) rfl rfl rfl rfl) ?_
      refine scons (CStep.step (PStep.c (p_load rfl wBet_agg5 (Sees.of rfl) rfl)) rfl rfl rfl rfl) ?_
      refine scons (CStep.step (PStep.c (p_eql rfl (Sees.of rfl) (Sees.of rfl))) rfl rfl rfl rfl) ?_
      refine snil ?_
      refine f_cond rfl ?_ ?_
      · intro hc2
        try simp only [bs] at hc2
        refine f_seq ?_
        refine f_region ?_
        refine scons (CStep.step (PStep.c (p_move (y := .val _) rfl (Sees.of rfl) rfl)) rfl rfl rfl rfl) ?_
        refine scons (CStep.step (PStep.c (p_assign (y := .val _) rfl (Sees.of rfl) rfl)) rfl rfl rfl rfl) ?_
        refine snil ?_
        refine f_ret ?_
        refine ends_ret (res_eq (res1 rfl (res_tmp rfl (Sees.of rfl))) ?_)
        rw [Sp.idx_at (z := 0) (by omega) hp (by simpa using hc2.symm)]
      · intro hc2
        try simp only [bs] at hc2
        refine f_skip ?_
        refine f_nil ?_
        show AWs _ _ _ _ _
        refine f_region ?_
        refine scons (CStep.step (PStep.c (p_add rfl (Sees.of rfl) (Sees.of rfl) (by omega))) rfl rfl rfl rfl) ?_
        refine scons (CStep.step (PStep.c (p_move (y := .val _) rfl (Sees.of rfl) rfl)) rfl rfl rfl rfl) ?_
        refine snil ?_
        refine f_back ⟨i + 1, ?_, ?_, le_ofL ⟨rfl, rfl, rfl, rfl, trivial⟩ rfl⟩
        · exact ⟨by omega, Sp.step_all (by omega) hp (decide_eq_false (fun h => hc2 h.symm))⟩
        · omega
    · intro hc1
      try simp only [bs] at hc1
      refine f_exit ?_
      show AWs _ _ _ _ _
      refine f_seq ?_
      refine f_region ?_
      refine scons (CStep.step (PStep.c (p_assign (y := .val _) rfl (Sees.of rfl) rfl)) rfl rfl rfl rfl) ?_
      refine snil ?_
      refine f_ret ?_
      refine ends_ret (res_eq (res1 rfl (res_tmp rfl (Sees.of rfl))) ?_)
      rw [List.take_of_length_le (by omega)] at hp
      rw [Sp.idx_none hp]

theorem hasB_spec (l : List Int) (x : Int) :
    Spec Go.Proofs.Try.prog 134 [.val (bytes l), .val (.int .u8 x)] (D.bool (decide (x ∈ l))) := by
  refine spec_of' Go.Proofs.Try.func134 rfl Go.Proofs.Try.ntmps134 rfl ?_
  refine f_seq ?_
  refine f_region ?_
  refine scons (CStep.step (PStep.c (p_assign (y := .val _) rfl (Sees.of rfl) rfl)) rfl rfl rfl rfl) ?_
  refine snil ?_
  refine f_seq ?_
  refine f_region ?_
  refine scons (CStep.step (PStep.c (p_move (y := .val _) rfl (Sees.of rfl) rfl)) rfl rfl rfl rfl) ?_
  refine scons (CStep.step (PStep.c (p_move (y := .val _) rfl (Sees.of rfl) rfl)) rfl rfl rfl rfl) ?_
  refine scons (CStep.step (c_call rfl wBet_isf162 ⟨_, _, rfl, (Sees.of rfl), rfl, ⟨_, _, rfl, (Sees.of rfl), rfl, rfl⟩⟩ (idxB_spec l x)) rfl rfl rfl rfl) ?_
  refine scons (CStep.step (PStep.c (p_geq rfl (Sees.of rfl) (Sees.of rfl))) rfl rfl rfl rfl) ?_
  refine scons (CStep.step (PStep.c (p_assign (y := .val _) rfl (Sees.of rfl) rfl)) rfl rfl rfl rfl) ?_
  refine snil ?_
  refine f_ret ?_
  refine ends_ret (res_eq (res1 rfl (res_tmp rfl (Sees.of rfl))) ?_)
  rw [Sp.idx_any]
  congr 1
  by_cases h : x ∈ l
  · rw [decide_eq_true h, List.any_eq_true]; exact ⟨x, h, by simp⟩
  · rw [decide_eq_false h, List.any_eq_false]; intro y hy; simp; rintro rfl; exact h hy

theorem apart1_spec (n m : Nat) (a b : List (List Int)) (x : List Bool) (ha : ∀ l ∈ a, Sp.Good x.length l) (hb : ∀ l ∈ b, Sp.Good x.length l) :
    Spec Go.Proofs.Try.prog 132 [.val (bools x), .ptr (cnf n a), .ptr (cnf m b)] (D.bool (Sp.all x a && Sp.all x b)) := by
  refine spec_of' Go.Proofs.Try.func132 rfl Go.Proofs.Try.ntmps132 rfl ?_
  refine f_seq ?_
  refine f_region ?_
  refine scons (CStep.step (PStep.c (p_assign (y := .val _) rfl (Sees.of rfl) rfl)) rfl rfl rfl rfl) ?_
  refine snil ?_
  refine f_seq ?_
  refine f_region ?_
  refine scons (CStep.step (PStep.c (p_fieldAddr rfl wBet_fld39_1 wBet_siz37 (by decide) (Sees.of rfl) rfl rfl)) rfl rfl rfl rfl) ?_
  refine scons (CStep.step (PStep.c (p_load rfl wBet_agg37 (Sees.of rfl) rfl)) rfl rfl rfl rfl) ?_
  refine scons (CStep.step (PStep.c (p_move (y := .val _) rfl (Sees.of rfl) rfl)) rfl rfl rfl rfl) ?_
  refine scons (CStep.step (c_call rfl wBet_isf133 ⟨_, _, rfl, (Sees.of rfl), rfl, ⟨_, _, rfl, (Sees.of rfl), rfl, rfl⟩⟩ (call_spec a x ha)) rfl rfl rfl rfl) ?_
  refine scons (CStep.step (PStep.c (p_move (y := .val _) rfl (Sees.of rfl) rfl)) rfl rfl rfl rfl) ?_
  refine scons (CStep.guard rfl rfl rfl (fun hg0 => PStep.c (p_fieldAddr rfl wBet_fld39_1 wBet_siz37 (by decide) (Sees.of rfl) rfl rfl)) rfl rfl rfl rfl rfl) ?_
  refine scons (CStep.guard rfl rfl rfl (fun hg0 => PStep.c (p_load rfl wBet_agg37 (Sees.gv' rfl hg0) rfl)) rfl rfl rfl rfl rfl) ?_
  refine scons (CStep.guard rfl rfl rfl (fun hg0 => PStep.c (p_move (y := .val _) rfl (Sees.of rfl) rfl)) rfl rfl rfl rfl rfl) ?_
  refine scons (CStep.guard rfl rfl rfl (fun hg0 => c_call rfl wBet_isf133 ⟨_, _, rfl, (Sees.gv' rfl hg0), rfl, ⟨_, _, rfl, (Sees.gv' rfl hg0), rfl, rfl⟩⟩ (call_spec b x hb)) rfl rfl rfl rfl rfl) ?_
  refine scons (CStep.step (PStep.c (p_and rfl (Sees.of rfl) (fun h => Sees.gv' rfl (beq_of_eq h)) (Sees.of rfl))) rfl rfl rfl rfl) ?_
  refine scons (CStep.step (PStep.c (p_assign (y := .val _) rfl (Sees.of rfl) rfl)) rfl rfl rfl rfl) ?_
  refine snil ?_
  refine f_ret ?_
  refine ends_ret (res_eq (res1 rfl (res_tmp rfl (Sees.of rfl))) ?_)
  rfl

theorem apartB_spec (n : Int) (a : List (List Int)) (m : Int) (b : List (List Int)) :
    Spec Go.Proofs.Try.prog 92 [.val (cnf n a), .val (cnf m b)] (fault (Sp.apW n a m b).1 (Sp.apW n a m b).2) := by
  refine spec_of' Go.Proofs.Try.func92 rfl Go.Proofs.Try.ntmps92 rfl ?_
  refine f_seq ?_
  refine f_region ?_
  refine scons (r_box (ob := 10002) rfl (Sees.of rfl) rfl rfl rfl rfl rfl rfl) ?_
  refine scons (r_box (ob := 10003) rfl (Sees.of rfl) rfl rfl rfl rfl rfl rfl) ?_
  refine scons (r_alloc (ob := 10004) rfl wBet_zer26 rfl rfl rfl rfl rfl rfl) ?_
  refine snil ?_
  refine f_seq ?_
  refine f_seq ?_
  refine f_region ?_
  refine scons (CStep.step (PStep.c (p_loadBS rfl wBet_agg39 wBet_siz39 (Sees.of rfl) rfl rfl rfl)) rfl rfl rfl rfl) ?_
  refine scons (CStep.step (PStep.c (p_loadBS rfl wBet_agg39 wBet_siz39 (Sees.of rfl) rfl rfl rfl)) rfl rfl rfl rfl) ?_
  refine scons (CStep.step (c_call rfl wBet_isf127 ⟨_, _, rfl, (Sees.of rfl), rfl, ⟨_, _, rfl, (Sees.of rfl), rfl, rfl⟩⟩ (betC_spec n a m b)) rfl rfl rfl rfl) ?_
  refine scons (r_alloc (ob := 10005) rfl wBet_zer26 rfl rfl rfl rfl rfl rfl) ?_
  refine scons (r_storeS rfl wBet_siz26 rfl rfl rfl (Sees.of rfl) rfl (Sees.of rfl) rfl rfl rfl rfl) ?_
  refine snil ?_
  refine f_seq ?_
  refine f_region ?_
  refine scons (CStep.step (PStep.c (p_fieldRef rfl wBet_fld26_0 wBet_siz3 rfl (Sees.of rfl) rfl)) rfl rfl rfl rfl) ?_
  refine scons (CStep.step (PStep.c (p_loadB (y := .val _) rfl wBet_agg3 (Sees.of rfl) rfl rfl rfl rfl)) rfl rfl rfl rfl) ?_
  refine scons (CStep.step (PStep.c (p_neq rfl (Sees.of rfl) (Sees.of rfl))) rfl rfl rfl rfl) ?_
  refine snil ?_
  refine f_cond rfl ?_ ?_
  · intro hc1
    try simp only [bs] at hc1
    refine f_seq ?_
    refine f_region ?_
    refine scons (CStep.step (PStep.c (p_loadBS rfl wBet_agg26 wBet_siz26 (Sees.of rfl) rfl rfl rfl)) rfl rfl rfl rfl) ?_
    refine scons (r_storeS rfl wBet_siz26 rfl rfl rfl (Sees.of rfl) rfl (Sees.of rfl) rfl rfl rfl rfl) ?_
    refine snil ?_
    refine f_ret ?_
    refine ends_ret (res_eq (res1 rfl (res_cell (by rfl) rfl rfl wBet_agg26 wBet_siz26 rfl rfl)) ?_)
    rw [Sp.apW, if_pos hc1]
    all_goals rfl
  · intro hc1
    try simp only [bs] at hc1
    obtain ⟨k, rfl, rfl, hk, hca, hcb, hlab⟩ := Sp.bet_ok hc1
    have hga := (Sp.check_use hca).1
    have hgb := (Sp.check_use hcb).1
    refine f_skip ?_
    refine f_seq ?_
    refine f_region ?_
    refine scons (CStep.step (PStep.c (p_fieldRef rfl wBet_fld39_0 wBet_siz3 rfl (Sees.of rfl) rfl)) rfl rfl rfl rfl) ?_
    refine scons (CStep.step (PStep.c (p_loadB (y := .val _) rfl wBet_agg3 (Sees.of rfl) rfl rfl rfl rfl)) rfl rfl rfl rfl) ?_
    refine scons (CStep.step (PStep.c (p_makeFunc (l := [.tmp 2, .tmp 3]) rfl)) rfl rfl rfl rfl) ?_
    refine scons (r_callS (q := true) (ob := 10017) 0 rfl wBet_isf131 (Made_spec k (fun x => Sp.all x a && Sp.all x b) hk) (sa_cons (sh_of (Sees.of rfl) rfl) (sa_cons (sh_clo (Sees.of rfl) wBet_isf132 (sl_cons (sh_refS Sees.same rfl (shc_cons (sh_of Sees.same rfl) (shc_cons (sh_of Sees.same rfl) (shc_nil)))) (sl_cons (sh_refS Sees.same rfl (shc_cons (sh_of Sees.same rfl) (shc_cons (sh_of Sees.same rfl) (shc_nil)))) (sl_nil))) (fun _ => rfl) (fun _ => rfl) (fun y => apart1_spec k k a b y.1 (by rw [y.2]; exact hga) (by rw [y.2]; exact hgb))) (sa_nil))) (.inr (fun _ => rfl)) rfl rfl rfl rfl rfl) ?_
    refine scons (CStep.step (PStep.c (p_assign (y := .row _ _) rfl (Sees.of rfl) rfl)) rfl rfl rfl rfl) ?_
    refine snil ?_
    refine f_seq ?_
    refine f_seq ?_
    refine f_region ?_
    refine scons (CStep.step (PStep.c (p_move (y := .row _ _) rfl (Sees.of rfl) rfl)) rfl rfl rfl rfl) ?_
    refine scons (CStep.step (c_callS (q := true) rfl wBet_isf134 (hasB_spec (Sp.btab (fun x => Sp.all x a && Sp.all x b) k) 1) (sa_cons (sh_row (Sees.of rfl) rfl) (sa_cons (sh_of (Sees.of rfl) rfl) (sa_nil))) rfl) rfl rfl rfl rfl) ?_
    refine snil ?_
    refine f_cond rfl ?_ ?_
    · intro hc2
      try simp only [bs] at hc2
      refine f_seq ?_
      refine f_region ?_
      refine scons (CStep.step (PStep.c (p_build rfl wBet_plc26 wBet_zer26 (by decide) wBet_zch26 ⟨_, _, _, rfl, rfl, rfl, (Sees.of rfl), rfl⟩ rfl)) rfl rfl rfl rfl) ?_
      refine scons (r_storeS rfl wBet_siz26 rfl rfl rfl (Sees.of rfl) rfl (Sees.of rfl) rfl rfl rfl rfl) ?_
      refine snil ?_
      refine f_ret ?_
      refine ends_ret (res_eq (res1 rfl (res_cell (by rfl) rfl rfl wBet_agg26 wBet_siz26 rfl rfl)) ?_)
      rw [Sp.apW, if_neg (fun h => h hc1), Int.toNat_natCast, if_pos (by simpa using hc2)]
      all_goals rfl
    · intro hc2
      try simp only [bs] at hc2
      refine f_skip ?_
      refine f_seq ?_
      refine f_region ?_
      refine scons (CStep.step (PStep.c (p_build rfl wBet_plc26 wBet_zer26 (by decide) wBet_zch26 rfl rfl)) rfl rfl rfl rfl) ?_
      refine scons (r_storeS rfl wBet_siz26 rfl rfl rfl (Sees.of rfl) rfl (Sees.of rfl) rfl rfl rfl rfl) ?_
      refine snil ?_
      refine f_ret ?_
      refine ends_ret (res_eq (res1 rfl (res_cell (by rfl) rfl rfl wBet_agg26 wBet_siz26 rfl rfl)) ?_)
      rw [Sp.apW, if_neg (fun h => h hc1), Int.toNat_natCast, if_neg (by simpa using hc2)]
      all_goals rfl

theorem Strong_spec (n : Int) (a : List (List Int)) (m : Int) (b : List (List Int)) :
    Spec Go.Proofs.Try.prog 44 [.val (cnf n a), .val (cnf m b)] (two (dia (Sp.strO n a m b).1 (Sp.strO n a m b).2.1) (fault (Sp.strO n a m b).2.2.1 (Sp.strO n a m b).2.2.2)) := by
  refine spec_of' Go.Proofs.Try.func44 rfl Go.Proofs.Try.ntmps44 rfl ?_
  refine f_seq ?_
  refine f_region ?_
  refine scons (r_box (ob := 10002) rfl (Sees.of rfl) rfl rfl rfl rfl rfl rfl) ?_
  refine scons (r_box (ob := 10003) rfl (Sees.of rfl) rfl rfl rfl rfl rfl rfl) ?_
  refine scons (r_alloc (ob := 10004) rfl wBet_zer67 rfl rfl rfl rfl rfl rfl) ?_
  refine scons (r_alloc (ob := 10005) rfl wBet_zer26 rfl rfl rfl rfl rfl rfl) ?_
  refine snil ?_
  refine f_seq ?_
  refine f_seq ?_
  refine f_region ?_
  refine scons (CStep.step (PStep.c (p_loadBS rfl wBet_agg39 wBet_siz39 (Sees.of rfl) rfl rfl rfl)) rfl rfl rfl rfl) ?_
  refine scons (CStep.step (PStep.c (p_loadBS rfl wBet_agg39 wBet_siz39 (Sees.of rfl) rfl rfl rfl)) rfl rfl rfl rfl) ?_
  refine scons (CStep.step (c_call rfl wBet_isf92 ⟨_, _, rfl, (Sees.of rfl), rfl, ⟨_, _, rfl, (Sees.of rfl), rfl, rfl⟩⟩ (apartB_spec n a m b)) rfl rfl rfl rfl) ?_
  refine scons (r_alloc (ob := 10006) rfl wBet_zer26 rfl rfl rfl rfl rfl rfl) ?_
  refine scons (r_storeS rfl wBet_siz26 rfl rfl rfl (Sees.of rfl) rfl (Sees.of rfl) rfl rfl rfl rfl) ?_
  refine snil ?_
  refine f_seq ?_
  refine f_region ?_
  refine scons (CStep.step (PStep.c (p_fieldRef rfl wBet_fld26_0 wBet_siz3 rfl (Sees.of rfl) rfl)) rfl rfl rfl rfl) ?_
  refine scons (CStep.step (PStep.c (p_loadB (y := .val _) rfl wBet_agg3 (Sees.of rfl) rfl rfl rfl rfl)) rfl rfl rfl rfl) ?_
  refine scons (CStep.step (PStep.c (p_neq rfl (Sees.of rfl) (Sees.of rfl))) rfl rfl rfl rfl) ?_
  refine snil ?_
  refine f_cond rfl ?_ ?_
  · intro hc1
    try simp only [bs] at hc1
    refine f_seq ?_
    refine f_draw wBet_mix (by kernel_rfl) ?_
    refine dcons (CStep.step (PStep.c (p_build rfl wBet_plc67 wBet_zer67 (by decide) wBet_zch67 rfl rfl)) rfl rfl rfl rfl) ?_
    refine dcons (CStep.step (PStep.c (p_loadBS rfl wBet_agg26 wBet_siz26 (Sees.of rfl) rfl rfl rfl)) rfl rfl rfl rfl) ?_
    refine dcons (r_storeS rfl wBet_siz67 rfl rfl rfl (Sees.of rfl) rfl (Sees.of rfl) rfl rfl rfl rfl) ?_
    refine dcons (r_storeS rfl wBet_siz26 rfl rfl rfl (Sees.of rfl) rfl (Sees.of rfl) rfl rfl rfl rfl) ?_
    refine dnil (by kernel_rfl) ?_
    refine f_ret ?_
    refine ends_ret (res_eq (res2 rfl (res_cell (by rfl) rfl rfl wBet_agg67 wBet_siz67 rfl rfl) (res_cell (by rfl) rfl rfl wBet_agg26 wBet_siz26 rfl rfl)) ?_)
    rw [Sp.strO, if_pos hc1]
    all_goals rfl
  · intro hc1
    try simp only [bs] at hc1
    obtain ⟨k, rfl, rfl, hk, hca, hcb, hlab⟩ := Sp.bet_ok (Sp.ap_ok hc1)
    have hga := (Sp.check_use hca).1
    refine f_skip ?_
    refine f_seq ?_
    refine f_region ?_
    refine scons (CStep.step (PStep.c (p_loadBS rfl wBet_agg39 wBet_siz39 (Sees.of rfl) rfl rfl rfl)) rfl rfl rfl rfl) ?_
    refine scons (CStep.step (PStep.c (p_loadBS rfl wBet_agg39 wBet_siz39 (Sees.of rfl) rfl rfl rfl)) rfl rfl rfl rfl) ?_
    refine scons (CStep.step (c_call rfl wBet_isf94 ⟨_, _, rfl, (Sees.of rfl), rfl, ⟨_, _, rfl, (Sees.of rfl), rfl, rfl⟩⟩ ((some_specB k a k b hk hga).spec 0)) rfl rfl rfl rfl) ?_
    refine scons (CStep.step (c_call rfl wBet_isf93 ⟨_, _, rfl, (Sees.of rfl), rfl, rfl⟩ (Built_spec k (Sp.dtab (Sp.someT b (fun x => Sp.all x a) k) k) hk (Sp.dtab_len _ _))) rfl rfl rfl rfl) ?_
    refine scons (CStep.step (PStep.c (p_extract rfl (Sees.of rfl) rfl)) rfl rfl rfl rfl) ?_
    refine scons (CStep.step (PStep.c (p_extract rfl (Sees.of rfl) rfl)) rfl rfl rfl rfl) ?_
    refine scons (r_storeS rfl wBet_siz67 rfl rfl rfl (Sees.of rfl) rfl (Sees.of rfl) rfl rfl rfl rfl) ?_
    refine scons (r_storeS rfl wBet_siz26 rfl rfl rfl (Sees.of rfl) rfl (Sees.of rfl) rfl rfl rfl rfl) ?_
    refine snil ?_
    refine f_ret ?_
    refine ends_ret (res_eq (res2 rfl (res_cell (by rfl) rfl rfl wBet_agg67 wBet_siz67 rfl rfl) (res_cell (by rfl) rfl rfl wBet_agg26 wBet_siz26 rfl rfl)) ?_)
    rw [Sp.strO, if_neg (fun h => h hc1), Int.toNat_natCast]
    all_goals rfl

theorem Weak_spec (n : Int) (a : List (List Int)) (m : Int) (b : List (List Int)) :
    Spec Go.Proofs.Try.prog 48 [.val (cnf n a), .val (cnf m b)] (two (dia (Sp.weaO n a m b).1 (Sp.weaO n a m b).2.1) (fault (Sp.weaO n a m b).2.2.1 (Sp.weaO n a m b).2.2.2)) := by
  refine spec_of' Go.Proofs.Try.func48 rfl Go.Proofs.Try.ntmps48 rfl ?_
  refine f_seq ?_
  refine f_region ?_
  refine scons (r_box (ob := 10002) rfl (Sees.of rfl) rfl rfl rfl rfl rfl rfl) ?_
  refine scons (r_box (ob := 10003) rfl (Sees.of rfl) rfl rfl rfl rfl rfl rfl) ?_
  refine scons (r_alloc (ob := 10004) rfl wBet_zer67 rfl rfl rfl rfl rfl rfl) ?_
  refine scons (r_alloc (ob := 10005) rfl wBet_zer26 rfl rfl rfl rfl rfl rfl) ?_
  refine snil ?_
  refine f_seq ?_
  refine f_seq ?_
  refine f_region ?_
  refine scons (CStep.step (PStep.c (p_loadBS rfl wBet_agg39 wBet_siz39 (Sees.of rfl) rfl rfl rfl)) rfl rfl rfl rfl) ?_
  refine scons (CStep.step (PStep.c (p_loadBS rfl wBet_agg39 wBet_siz39 (Sees.of rfl) rfl rfl rfl)) rfl rfl rfl rfl) ?_
  refine scons (CStep.step (c_call rfl wBet_isf92 ⟨_, _, rfl, (Sees.of rfl), rfl, ⟨_, _, rfl, (Sees.of rfl), rfl, rfl⟩⟩ (apartB_spec n a m b)) rfl rfl rfl rfl) ?_
  refine scons (r_alloc (ob := 10006) rfl wBet_zer26 rfl rfl rfl rfl rfl rfl) ?_
  refine scons (r_storeS rfl wBet_siz26 rfl rfl rfl (Sees.of rfl) rfl (Sees.of rfl) rfl rfl rfl rfl) ?_
  refine snil ?_
  refine f_seq ?_
  refine f_region ?_
  refine scons (CStep.step (PStep.c (p_fieldRef rfl wBet_fld26_0 wBet_siz3 rfl (Sees.of rfl) rfl)) rfl rfl rfl rfl) ?_
  refine scons (CStep.step (PStep.c (p_loadB (y := .val _) rfl wBet_agg3 (Sees.of rfl) rfl rfl rfl rfl)) rfl rfl rfl rfl) ?_
  refine scons (CStep.step (PStep.c (p_neq rfl (Sees.of rfl) (Sees.of rfl))) rfl rfl rfl rfl) ?_
  refine snil ?_
  refine f_cond rfl ?_ ?_
  · intro hc1
    try simp only [bs] at hc1
    refine f_seq ?_
    refine f_draw wBet_mix (by kernel_rfl) ?_
    refine dcons (CStep.step (PStep.c (p_build rfl wBet_plc67 wBet_zer67 (by decide) wBet_zch67 rfl rfl)) rfl rfl rfl rfl) ?_
    refine dcons (CStep.step (PStep.c (p_loadBS rfl wBet_agg26 wBet_siz26 (Sees.of rfl) rfl rfl rfl)) rfl rfl rfl rfl) ?_
    refine dcons (r_storeS rfl wBet_siz67 rfl rfl rfl (Sees.of rfl) rfl (Sees.of rfl) rfl rfl rfl rfl) ?_
    refine dcons (r_storeS rfl wBet_siz26 rfl rfl rfl (Sees.of rfl) rfl (Sees.of rfl) rfl rfl rfl rfl) ?_
    refine dnil (by kernel_rfl) ?_
    refine f_ret ?_
    refine ends_ret (res_eq (res2 rfl (res_cell (by rfl) rfl rfl wBet_agg67 wBet_siz67 rfl rfl) (res_cell (by rfl) rfl rfl wBet_agg26 wBet_siz26 rfl rfl)) ?_)
    rw [Sp.weaO, if_pos hc1]
    all_goals rfl
  · intro hc1
    try simp only [bs] at hc1
    obtain ⟨k, rfl, rfl, hk, hca, hcb, hlab⟩ := Sp.bet_ok (Sp.ap_ok hc1)
    have hgb := (Sp.check_use hcb).1
    have hp16 := Sp.pow16 hk
    have hl1 := Sp.btab_len (Sp.someT a (fun x => Sp.all x b) k) k
    refine f_skip ?_
    refine f_seq ?_
    refine f_region ?_
    refine scons (CStep.step (PStep.c (p_loadBS rfl wBet_agg39 wBet_siz39 (Sees.of rfl) rfl rfl rfl)) rfl rfl rfl rfl) ?_
    refine scons (CStep.step (PStep.c (p_loadBS rfl wBet_agg39 wBet_siz39 (Sees.of rfl) rfl rfl rfl)) rfl rfl rfl rfl) ?_
    refine scons (r_callS (q := false) (ob := 30000) 0 rfl wBet_isf94 (some_specB k b k a hk hgb) (sa_cons (sh_of (Sees.of rfl) rfl) (sa_cons (sh_of (Sees.of rfl) rfl) (sa_nil))) (.inl rfl) rfl rfl rfl rfl rfl) ?_
    refine scons (CStep.step (PStep.c (p_assign (y := .row _ _) rfl (Sees.of rfl) rfl)) rfl rfl rfl rfl) ?_
    refine snil ?_
    refine f_seq ?_
    refine f_seq ?_
    refine f_region ?_
    refine scons (CStep.step (PStep.c (p_move (y := .row _ _) rfl (Sees.of rfl) rfl)) rfl rfl rfl rfl) ?_
    refine scons (CStep.step (PStep.c (p_lenR rfl wBet_isl141 (Sees.of rfl) rfl)) rfl rfl rfl rfl) ?_
    refine scons (CStep.step (PStep.c (p_move (y := .val _) rfl (Sees.of rfl) rfl)) rfl rfl rfl rfl) ?_
    refine snil ?_
    refine f_block ?_
    refine f_loop (α := Nat) (fun i => i ≤ 2 ^ k) (fun i => [(22, iv i), (21, iv (2 ^ k : Nat)), (7, .row 30000 0), (30000, .arr 0 5 1 1 dby 0 (Sp.fillTo (2 ^ k) (fun j : Nat => Sp.b01 ((Sp.someT a (fun x => Sp.all x b) k) (Sp.bits k j))) (fun j : Nat => Sp.b01 (!(Sp.someT a (fun x => Sp.all x b) k) (Sp.bits k j))) i)), (4, .ref 10004 0 0), (5, .ref 10005 0 0), (10004, .box 0 (.ccons (.emp) (.ccons (iv 0) .cnil))), (10005, .box 0 (.ccons (iv 0) (.ccons (iv 0) .cnil)))]) (fun i => 2 ^ k - i) 0 ?_ ?_ ?_
    · exact Nat.zero_le _
    · exact le_ofL ⟨rfl, (by rw [← Sp.btab_len (Sp.someT a (fun x => Sp.all x b) k) k]; rfl), rfl, (by rw [Sp.fill_zero, ← Sp.btab_map]; rfl), rfl, rfl, rfl, rfl, trivial⟩ rfl
    · rintro i hi
      have hi : i ≤ 2 ^ k := hi
      have hfl := Sp.fill_len (2 ^ k) (fun j : Nat => Sp.b01 ((Sp.someT a (fun x => Sp.all x b) k) (Sp.bits k j))) (fun j : Nat => Sp.b01 (!(Sp.someT a (fun x => Sp.all x b) k) (Sp.bits k j))) i
      refine f_seq ?_
      refine f_region ?_
      refine scons (CStep.step (PStep.c (p_lss rfl (Sees.of rfl) (Sees.of rfl))) rfl rfl rfl rfl) ?_
      refine snil ?_
      refine f_seq ?_
      refine f_cond rfl ?_ ?_
      · intro hc2
        try simp only [bs] at hc2
        refine f_skip ?_
        refine f_seq ?_
        refine f_block ?_
        refine f_seq ?_
        refine f_region ?_
        refine scons (CStep.step (PStep.c (p_move (y := .val _) rfl (Sees.of rfl) rfl)) rfl rfl rfl rfl) ?_
        refine scons (CStep.step (PStep.c (p_assign (y := .val _) rfl (Sees.of rfl) rfl)) rfl rfl rfl rfl) ?_
        refine snil ?_
        have hfg := Sp.fill_get (fun j : Nat => Sp.b01 ((Sp.someT a (fun x => Sp.all x b) k) (Sp.bits k j))) (fun j : Nat => Sp.b01 (!(Sp.someT a (fun x => Sp.all x b) k) (Sp.bits k j))) i (N := 2 ^ k) 0 (j := i) (by omega)
        refine f_region ?_
        refine scons (CStep.step (PStep.c (p_move (y := .row _ _) rfl (Sees.of rfl) rfl)) rfl rfl rfl rfl) ?_
        refine scons (CStep.step (PStep.c (p_move (y := .val _) rfl (Sees.of rfl) rfl)) rfl rfl rfl rfl) ?_
        refine scons (CStep.step (PStep.c (p_move (y := .row _ _) rfl (Sees.of rfl) rfl)) rfl rfl rfl rfl) ?_
        refine scons (CStep.step (PStep.c (p_move (y := .val _) rfl (Sees.of rfl) rfl)) rfl rfl rfl rfl) ?_
        refine scons (CStep.step (PStep.c ((by first | exact p_indexR rfl wBet_isl141 wBet_siz5 (Sees.of rfl) rfl (Sees.of rfl) (by rw [hfl]; omega) | exact p_indexRZ rfl wBet_isl141 wBet_siz5 (Sees.of rfl) rfl (Sees.of rfl) (by omega) (by rw [hfl]; omega)))) rfl rfl rfl rfl) ?_
        refine scons (CStep.step (PStep.c (p_loadE rfl wBet_agg5 (Sees.of rfl) rfl (by rw [hfl]; omega) (fun _ => rfl))) rfl rfl rfl rfl) ?_
        refine scons (CStep.step (PStep.c (p_subW rfl (Sees.of rfl) (Sees.of rfl))) rfl rfl rfl rfl) ?_
        refine scons (CStep.step (PStep.c ((by first | exact p_indexR rfl wBet_isl141 wBet_siz5 (Sees.of rfl) rfl (Sees.of rfl) (by rw [hfl]; omega) | exact p_indexRZ rfl wBet_isl141 wBet_siz5 (Sees.of rfl) rfl (Sees.of rfl) (by omega) (by rw [hfl]; omega)))) rfl rfl rfl rfl) ?_
        refine scons (r_storeE rfl wBet_siz5 rfl rfl rfl (Sees.of rfl) rfl (by rw [hfl]; omega) (Sees.of rfl) rfl) ?_
        refine snil ?_
        refine f_nil ?_
        show AWs _ _ _ _ _
        refine f_region ?_
        refine scons (CStep.step (PStep.c (p_add rfl (Sees.of rfl) (Sees.of rfl) (by omega))) rfl rfl rfl rfl) ?_
        refine scons (CStep.step (PStep.c (p_move (y := .val _) rfl (Sees.of rfl) rfl)) rfl rfl rfl rfl) ?_
        refine snil ?_
        refine f_back ⟨i + 1, ?_, ?_, le_ofL ⟨rfl, rfl, rfl, (by rw [← Sp.fill_to (x := IntKind.u8.wrap (1 - (Sp.fillTo (2 ^ k) (fun j : Nat => Sp.b01 ((Sp.someT a (fun x => Sp.all x b) k) (Sp.bits k j))) (fun j : Nat => Sp.b01 (!(Sp.someT a (fun x => Sp.all x b) k) (Sp.bits k j))) i).getD i 0)) (by omega) (by rw [hfg, if_neg (Nat.lt_irrefl i)]; exact Sp.not_wrap _)]; rfl), rfl, rfl, rfl, rfl, trivial⟩ rfl⟩
        · omega
        · omega
      · intro hc2
        try simp only [bs] at hc2
        refine f_exit ?_
        show AWs _ _ _ _ _
        refine f_seq ?_
        rw [Sp.fill_end _ _ (by omega), ← Sp.btab_map (fun x => !(Sp.someT a (fun x => Sp.all x b) k) x) k]
        refine f_le (GLe.le (g_freeze (k := 7) (o1 := 30000) rfl rfl rfl rfl)) ?_ (by simp)
        refine f_region ?_
        refine scons (CStep.step (PStep.c (p_move (y := .val _) rfl (Sees.of rfl) rfl)) rfl rfl rfl rfl) ?_
        refine scons (CStep.step (c_call rfl wBet_isf93 ⟨_, _, rfl, (Sees.of rfl), rfl, rfl⟩ (Built_spec k (Sp.dtab (fun x => !(Sp.someT a (fun x => Sp.all x b) k) x) k) hk (Sp.dtab_len _ _))) rfl rfl rfl rfl) ?_
        refine scons (CStep.step (PStep.c (p_extract rfl (Sees.of rfl) rfl)) rfl rfl rfl rfl) ?_
        refine scons (CStep.step (PStep.c (p_extract rfl (Sees.of rfl) rfl)) rfl rfl rfl rfl) ?_
        refine scons (r_storeS rfl wBet_siz67 rfl rfl rfl (Sees.of rfl) rfl (Sees.of rfl) rfl rfl rfl rfl) ?_
        refine scons (r_storeS rfl wBet_siz26 rfl rfl rfl (Sees.of rfl) rfl (Sees.of rfl) rfl rfl rfl rfl) ?_
        refine snil ?_
        refine f_ret ?_
        refine ends_ret (res_eq (res2 rfl (res_cell (by rfl) rfl rfl wBet_agg67 wBet_siz67 rfl rfl) (res_cell (by rfl) rfl rfl wBet_agg26 wBet_siz26 rfl rfl)) ?_)
        rw [Sp.weaO, if_neg (fun h => h hc1), Int.toNat_natCast]
        all_goals rfl

end Go.Um
