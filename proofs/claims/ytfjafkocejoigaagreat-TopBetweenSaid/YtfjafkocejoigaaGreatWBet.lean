/- Walks of Go functions of this seat, each by its contract. No condition beyond what each theorem says. -/
import Derived.Test.YtfjafkocejoigaaGreatWDia6
import Derived.Test.YtfjafkocejoigaaGreatWLst
import Derived.Test.YtfjafkocejoigaaGreatPD
import Derived.Test.YtfjafkocejoigaaGreatIfc
import Derived.Test.YtfjafkocejoigaaGreatFld
import Derived.Test.YtfjafkocejoigaaGreatProg
import Derived.KernelRfl
import Derived.Test.YtfjafkocejoigaaGreatQ
set_option maxRecDepth 4000
namespace Go.Um
open Go Go.RowKit

theorem wBet_agg22 : IsAgg Go.Proofs.Tryz.prog 22 false := by unfold IsAgg; kernel_rfl
theorem wBet_agg23 : IsAgg Go.Proofs.Tryz.prog 23 false := by unfold IsAgg; kernel_rfl
theorem wBet_agg25 : IsAgg Go.Proofs.Tryz.prog 25 true := by unfold IsAgg; kernel_rfl
theorem wBet_agg29 : IsAgg Go.Proofs.Tryz.prog 29 true := by unfold IsAgg; kernel_rfl
theorem wBet_agg3 : IsAgg Go.Proofs.Tryz.prog 3 false := by unfold IsAgg; kernel_rfl
theorem wBet_agg33 : IsAgg Go.Proofs.Tryz.prog 33 false := by unfold IsAgg; kernel_rfl
theorem wBet_agg4 : IsAgg Go.Proofs.Tryz.prog 4 false := by unfold IsAgg; kernel_rfl
theorem wBet_agg5 : IsAgg Go.Proofs.Tryz.prog 5 false := by unfold IsAgg; kernel_rfl
theorem wBet_fld127_0 : IsField Go.Proofs.Tryz.prog 127 0 0 25 := by unfold IsField; kernel_rfl
theorem wBet_fld127_1 : IsField Go.Proofs.Tryz.prog 127 1 2 25 := by unfold IsField; kernel_rfl
theorem wBet_fld128_0 : IsField Go.Proofs.Tryz.prog 128 0 0 25 := by unfold IsField; kernel_rfl
theorem wBet_fld128_1 : IsField Go.Proofs.Tryz.prog 128 1 2 25 := by unfold IsField; kernel_rfl
theorem wBet_fld25_0 : IsField Go.Proofs.Tryz.prog 25 0 0 3 := by unfold IsField; kernel_rfl
theorem wBet_fld25_1 : IsField Go.Proofs.Tryz.prog 25 1 1 23 := by unfold IsField; kernel_rfl
theorem wBet_fld29_0 : IsField Go.Proofs.Tryz.prog 29 0 0 3 := by unfold IsField; kernel_rfl
theorem wBet_isf121 : IsFn Go.Proofs.Tryz.prog 121 := by unfold IsFn; kernel_rfl
theorem wBet_isf123 : IsFn Go.Proofs.Tryz.prog 123 := by unfold IsFn; kernel_rfl
theorem wBet_isf225 : IsFn Go.Proofs.Tryz.prog 225 := by unfold IsFn; kernel_rfl
theorem wBet_isf226 : IsFn Go.Proofs.Tryz.prog 226 := by unfold IsFn; kernel_rfl
theorem wBet_isf227 : IsFn Go.Proofs.Tryz.prog 227 := by unfold IsFn; kernel_rfl
theorem wBet_isf228 : IsFn Go.Proofs.Tryz.prog 228 := by unfold IsFn; kernel_rfl
theorem wBet_isf229 : IsFn Go.Proofs.Tryz.prog 229 := by unfold IsFn; kernel_rfl
theorem wBet_isf230 : IsFn Go.Proofs.Tryz.prog 230 := by unfold IsFn; kernel_rfl
theorem wBet_isf231 : IsFn Go.Proofs.Tryz.prog 231 := by unfold IsFn; kernel_rfl
theorem wBet_isf232 : IsFn Go.Proofs.Tryz.prog 232 := by unfold IsFn; kernel_rfl
theorem wBet_isf234 : IsFn Go.Proofs.Tryz.prog 234 := by unfold IsFn; kernel_rfl
theorem wBet_isf43 : IsFn Go.Proofs.Tryz.prog 43 := by unfold IsFn; kernel_rfl
theorem wBet_isf56 : IsFn Go.Proofs.Tryz.prog 56 := by unfold IsFn; kernel_rfl
theorem wBet_isf67 : IsFn Go.Proofs.Tryz.prog 67 := by unfold IsFn; kernel_rfl
theorem wBet_isf81 : IsFn Go.Proofs.Tryz.prog 81 := by unfold IsFn; kernel_rfl
theorem wBet_isl164 : IsSlice Go.Proofs.Tryz.prog 164 5 := by unfold IsSlice; kernel_rfl
theorem wBet_isl23 : IsSlice Go.Proofs.Tryz.prog 23 22 := by unfold IsSlice; kernel_rfl
theorem wBet_mix : (Go.Proofs.Tryz.prog).follows .mixedOrders = true := by kernel_rfl
theorem wBet_plc29 : Places Go.Proofs.Tryz.prog 29 [(0, 1), (1, 1)] := by unfold Places; kernel_rfl
theorem wBet_siz23 : Size Go.Proofs.Tryz.prog 23 1 := by unfold Size; kernel_rfl
theorem wBet_siz25 : Size Go.Proofs.Tryz.prog 25 2 := by unfold Size; kernel_rfl
theorem wBet_siz29 : Size Go.Proofs.Tryz.prog 29 2 := by unfold Size; kernel_rfl
theorem wBet_siz3 : Size Go.Proofs.Tryz.prog 3 1 := by unfold Size; kernel_rfl
theorem wBet_siz5 : Size Go.Proofs.Tryz.prog 5 1 := by unfold Size; kernel_rfl
def wBet_z29 : D := .cons (.int .i64 0) (.cons (.int .i64 0) (.nil))
theorem wBet_zch29 : ∀ (ok : Nat → Prop) (w : World), R Go.Proofs.Tryz.prog wBet_z29 ok w (Value.cells (.agg #[(.int .i64 0), (.int .i64 0)])).toList := fun _ _ => z_int (z_int (z_nil))
theorem wBet_zer29 : Zero Go.Proofs.Tryz.prog 29 (.agg #[(.int .i64 0), (.int .i64 0)]) := by unfold Zero; kernel_rfl

theorem betC_spec (n : Int) (a : List (List Int)) (m : Int) (b : List (List Int)) :
    Spec Go.Proofs.Tryz.prog 103 [.val (cnf n a), .val (cnf m b)] (fault (Sp.betW n a m b).1 (Sp.betW n a m b).2) := by
  refine spec_of' Go.Proofs.Tryz.func103 rfl Go.Proofs.Tryz.ntmps103 rfl ?_
  refine f_seq (f_region ?_); refine scons (r_box (ob := 10002) rfl Zz rfl rfl rfl rfl rfl rfl) ?_; refine scons (r_box (ob := 10003) rfl Zz rfl rfl rfl rfl rfl rfl) ?_; refine scons (r_alloc (ob := 10004) rfl wBet_zer29 rfl rfl rfl rfl rfl rfl) (snil (f_seq (f_seq (f_region ?_)))); refine zq (p_loadBS rfl wBet_agg25 wBet_siz25 Zz rfl rfl rfl) rfl ?_; refine zc (c_call rfl wBet_isf67 ⟨_, _, rfl, Zz, rfl, rfl⟩ (ccheck_spec n a)) rfl ?_; refine scons (r_alloc (ob := 10005) rfl wBet_zer29 rfl rfl rfl rfl rfl rfl) ?_; refine scons (r_storeS rfl wBet_siz29 rfl rfl rfl Zz rfl Zz rfl rfl rfl rfl) (snil (f_seq (f_region ?_))); refine zq (p_fieldRef rfl wBet_fld29_0 wBet_siz3 rfl Zz rfl) rfl ?_; refine zq (p_loadB (y := .val _) rfl wBet_agg3 Zz rfl rfl rfl rfl) rfl ?_; refine zq (p_neq rfl Zz Zz) rfl (snil (f_cond rfl ?_ ?_))
  · intro hc1; (try simp only [bs] at hc1); refine f_seq (f_region ?_); refine zq (p_loadBS rfl wBet_agg29 wBet_siz29 Zz rfl rfl rfl) rfl ?_; refine scons (r_storeS rfl wBet_siz29 rfl rfl rfl Zz rfl Zz rfl rfl rfl rfl) (snil (f_ret ?_))
    refine ends_ret (res_eq (res1 rfl (res_cell (by rfl) rfl rfl wBet_agg29 wBet_siz29 rfl rfl)) ?_)
    rw [Sp.betW, if_pos hc1]
    all_goals rfl
  · intro hc1; (try simp only [bs] at hc1)
    have hla := (Sp.check_ok hc1).2.1
    refine f_skip (f_seq (f_seq (f_region ?_))); refine zq (p_loadBS rfl wBet_agg25 wBet_siz25 Zz rfl rfl rfl) rfl ?_; refine zc (c_call rfl wBet_isf67 ⟨_, _, rfl, Zz, rfl, rfl⟩ (ccheck_spec m b)) rfl ?_; refine scons (r_alloc (ob := 10006) rfl wBet_zer29 rfl rfl rfl rfl rfl rfl) ?_; refine scons (r_storeS rfl wBet_siz29 rfl rfl rfl Zz rfl Zz rfl rfl rfl rfl) (snil (f_seq (f_region ?_))); refine zq (p_fieldRef rfl wBet_fld29_0 wBet_siz3 rfl Zz rfl) rfl ?_; refine zq (p_loadB (y := .val _) rfl wBet_agg3 Zz rfl rfl rfl rfl) rfl ?_; refine zq (p_neq rfl Zz Zz) rfl (snil (f_cond rfl ?_ ?_))
    · intro hc2; (try simp only [bs] at hc2); refine f_seq (f_region ?_); refine zq (p_loadBS rfl wBet_agg29 wBet_siz29 Zz rfl rfl rfl) rfl ?_; refine scons (r_storeS rfl wBet_siz29 rfl rfl rfl Zz rfl Zz rfl rfl rfl rfl) (snil (f_ret ?_))
      refine ends_ret (res_eq (res1 rfl (res_cell (by rfl) rfl rfl wBet_agg29 wBet_siz29 rfl rfl)) ?_)
      rw [Sp.betW, if_neg (fun h => h hc1), if_pos hc2]
      all_goals rfl
    · intro hc2; (try simp only [bs] at hc2)
      have hlb := (Sp.check_ok hc2).2.1
      refine f_skip (f_seq (f_block (f_seq (f_region ?_)))); refine zq (p_fieldRef rfl wBet_fld25_0 wBet_siz3 rfl Zz rfl) rfl ?_; refine zq (p_loadB (y := .val _) rfl wBet_agg3 Zz rfl rfl rfl rfl) rfl ?_; refine zq (p_fieldRef rfl wBet_fld25_0 wBet_siz3 rfl Zz rfl) rfl ?_; refine zq (p_loadB (y := .val _) rfl wBet_agg3 Zz rfl rfl rfl rfl) rfl ?_; refine zq (p_neq rfl Zz Zz) rfl (zm2 rfl rfl rfl (snil (f_cond rfl ?_ ?_)))
      · intro hc3; (try simp only [bs] at hc3); refine f_seq (f_region ?_); refine zq (p_build rfl wBet_plc29 wBet_zer29 (by decide) wBet_zch29 ⟨_, _, _, rfl, rfl, rfl, Zz, ⟨_, _, _, rfl, rfl, rfl, Zz, rfl⟩⟩ rfl) rfl ?_; refine scons (r_storeS rfl wBet_siz29 rfl rfl rfl Zz rfl Zz rfl rfl rfl rfl) (snil (f_ret ?_))
        refine ends_ret (res_eq (res1 rfl (res_cell (by rfl) rfl rfl wBet_agg29 wBet_siz29 rfl rfl)) ?_)
        rw [Sp.betW, if_neg (fun h => h hc1), if_neg (fun h => h hc2), if_pos hc3]
        all_goals rfl
      · intro hc3; (try simp only [bs] at hc3); refine f_seq (f_region ?_); refine zq (p_fieldRef rfl wBet_fld25_0 wBet_siz3 rfl Zz rfl) rfl ?_; refine zq (p_loadB (y := .val _) rfl wBet_agg3 Zz rfl rfl rfl rfl) rfl ?_; refine zq (p_gtr rfl Zz Zz) rfl (zm1 rfl rfl rfl ?_); refine scons (CStep.guard rfl rfl rfl (fun hg0 => PStep.c (p_fieldRef rfl wBet_fld25_1 wBet_siz23 rfl Zz rfl)) rfl rfl rfl rfl rfl) ?_; refine scons (CStep.guard rfl rfl rfl (fun hg0 => PStep.c (p_loadB (y := .val _) rfl wBet_agg23 (Sees.gv' rfl hg0) rfl rfl rfl rfl)) rfl rfl rfl rfl rfl) ?_; refine scons (CStep.guard rfl rfl rfl (fun hg0 => PStep.c (p_len rfl wBet_isl23 (Sees.gv' rfl hg0))) rfl rfl rfl rfl rfl) ?_; refine scons (CStep.guard rfl rfl rfl (fun hg0 => PStep.c (p_fieldRef rfl wBet_fld25_1 wBet_siz23 rfl Zz rfl)) rfl rfl rfl rfl rfl) ?_; refine scons (CStep.guard rfl rfl rfl (fun hg0 => PStep.c (p_loadB (y := .val _) rfl wBet_agg23 (Sees.gv' rfl hg0) rfl rfl rfl rfl)) rfl rfl rfl rfl rfl) ?_; refine scons (CStep.guard rfl rfl rfl (fun hg0 => PStep.c (p_len rfl wBet_isl23 (Sees.gv' rfl hg0))) rfl rfl rfl rfl rfl) ?_; refine scons (CStep.guard rfl rfl rfl (fun hg0 => by have hp0 := hg0; (try simp only [bs] at hp0); exact PStep.c (p_add rfl (Sees.gv' rfl hg0) (Sees.gv' rfl hg0) (by omega))) rfl rfl rfl rfl rfl) ?_; refine scons (CStep.guard rfl rfl rfl (fun hg0 => PStep.c (p_gtr rfl (Sees.gv' rfl hg0) Zz)) rfl rfl rfl rfl rfl) ?_; refine zq (p_or rfl Zz Zz (fun h => Sees.gv' rfl (beq_of_eq h))) rfl (zm2 rfl rfl rfl (snil (f_cond rfl ?_ ?_)))
        · intro hc4; (try simp only [bs] at hc4); refine f_seq (f_region ?_); refine zq (p_build rfl wBet_plc29 wBet_zer29 (by decide) wBet_zch29 ⟨_, _, _, rfl, rfl, rfl, Zz, ⟨_, _, _, rfl, rfl, rfl, Zz, rfl⟩⟩ rfl) rfl ?_; refine scons (r_storeS rfl wBet_siz29 rfl rfl rfl Zz rfl Zz rfl rfl rfl rfl) (snil (f_ret ?_))
          refine ends_ret (res_eq (res1 rfl (res_cell (by rfl) rfl rfl wBet_agg29 wBet_siz29 rfl rfl)) ?_)
          rw [Sp.betW, if_neg (fun h => h hc1), if_neg (fun h => h hc2), if_neg (fun h => h hc3), if_pos (by omega)]
          all_goals rfl
        · intro hc4; (try simp only [bs] at hc4); refine f_skip (f_nil ?_); show AWs _ _ _ _ _; refine f_seq (f_region ?_); refine zq (p_build rfl wBet_plc29 wBet_zer29 (by decide) wBet_zch29 rfl rfl) rfl ?_; refine scons (r_storeS rfl wBet_siz29 rfl rfl rfl Zz rfl Zz rfl rfl rfl rfl) (snil (f_ret ?_))
          refine ends_ret (res_eq (res1 rfl (res_cell (by rfl) rfl rfl wBet_agg29 wBet_siz29 rfl rfl)) ?_)
          rw [Sp.betW, if_neg (fun h => h hc1), if_neg (fun h => h hc2), if_neg (fun h => h hc3), if_neg (by omega)]
          all_goals rfl

theorem occ1_spec (l : List Int) (v : Int) (hv : -9223372036854775808 < v ∧ v ≤ 9223372036854775807) :
    Spec Go.Proofs.Tryz.prog 231 [.val (ints l), .ptr (di v)] (D.bool (decide (v ∈ l) || decide (-v ∈ l))) := by
  refine spec_of' Go.Proofs.Tryz.func231 rfl Go.Proofs.Tryz.ntmps231 rfl ?_
  refine f_seq (f_region (zm2 rfl rfl rfl (snil (f_seq (f_region (zm1 rfl rfl rfl ?_)))))); refine zq (p_load rfl wBet_agg3 Zz rfl) rfl ?_; refine zc (c_call rfl wBet_isf81 ⟨_, _, rfl, Zz, rfl, ⟨_, _, rfl, Zz, rfl, rfl⟩⟩ (hasI_spec l v)) rfl (zm1 rfl rfl rfl ?_); refine scons (CStep.guard rfl rfl rfl (fun hg0 => PStep.c (p_move (y := .val _) rfl Zz rfl)) rfl rfl rfl rfl rfl) ?_; refine scons (CStep.guard rfl rfl rfl (fun hg0 => PStep.c (p_load rfl wBet_agg3 Zz rfl)) rfl rfl rfl rfl rfl) ?_; refine scons (CStep.guard rfl rfl rfl (fun hg0 => by have hp0 := hg0; (try simp only [bs] at hp0); exact PStep.c (p_neg rfl (Sees.gv' rfl hg0) (by omega))) rfl rfl rfl rfl rfl) ?_; refine scons (CStep.guard rfl rfl rfl (fun hg0 => c_call rfl wBet_isf81 ⟨_, _, rfl, (Sees.gv' rfl hg0), rfl, ⟨_, _, rfl, (Sees.gv' rfl hg0), rfl, rfl⟩⟩ (hasI_spec l (-v))) rfl rfl rfl rfl rfl) ?_; refine zq (p_or rfl Zz Zz (fun h => Sees.gv' rfl (beq_of_eq h))) rfl (zm2 rfl rfl rfl (snil (f_ret ?_)))
  refine ends_ret (res_eq (res1 rfl (res_tmp rfl (Sees.of rfl))) ?_)
  rfl

theorem occurs_spec (n : Int) (ls : List (List Int)) (v : Int) (hv : -9223372036854775808 < v ∧ v ≤ 9223372036854775807) :
    Spec Go.Proofs.Tryz.prog 225 [.val (cnf n ls), iv v] (D.bool (Sp.occ ls v)) := by
  refine spec_of' Go.Proofs.Tryz.func225 rfl Go.Proofs.Tryz.ntmps225 rfl ?_
  refine f_seq (f_region ?_); refine scons (r_box (ob := 10002) rfl Zz rfl rfl rfl rfl rfl rfl) ?_; refine scons (r_box (ob := 10003) rfl Zz rfl rfl rfl rfl rfl rfl) (zm2 rfl rfl rfl (snil (f_seq (f_region ?_)))); refine zq (p_fieldRef rfl wBet_fld25_1 wBet_siz23 rfl Zz rfl) rfl ?_; refine zq (p_loadB (y := .val _) rfl wBet_agg23 Zz rfl rfl rfl rfl) rfl ?_; refine zq (p_makeFunc (l := [.tmp 3]) rfl) rfl ?_; refine zc (c_callS (q := true) rfl wBet_isf56 (containsII_spec ls (fun l => decide (v ∈ l) || decide (-v ∈ l)) (fun _ => True) (fun _ _ => trivial)) (sa_cons (sh_of Zz rfl) (sa_cons (sh_clo Zz wBet_isf231 (sl_cons (sh_ref1 Sees.same rfl rfl (sh_of Sees.same rfl)) (sl_nil)) (fun _ => rfl) (fun _ => rfl) (fun y => occ1_spec y.1 v hv)) (sa_nil))) rfl) rfl (zm2 rfl rfl rfl (snil (f_ret ?_)))
  refine ends_ret (res_eq (res1 rfl (res_tmp rfl (Sees.of rfl))) ?_)
  rfl

theorem const1_spec (x : List Bool) (c : Bool) :
    Spec Go.Proofs.Tryz.prog 234 [.val (bools x), .ptr (D.bool c)] (D.bool c) := by
  refine spec_of' Go.Proofs.Tryz.func234 rfl Go.Proofs.Tryz.ntmps234 rfl ?_
  refine f_seq (f_region (zm2 rfl rfl rfl (snil (f_seq (f_region ?_))))); refine zq (p_load rfl wBet_agg4 Zz rfl) rfl (zm2 rfl rfl rfl (snil (f_ret ?_)))
  refine ends_ret (res_eq (res1 rfl (res_tmp rfl (Sees.of rfl))) ?_)
  rfl

theorem constant_spec (n : Nat) (c : Bool) (hn : n ≤ 16) :
    SpecN Go.Proofs.Tryz.prog 230 [iv n, bv c] 5 1 1 dby (Sp.btab (fun _ => c) n) := by
  refine specN_of' Go.Proofs.Tryz.func230 rfl Go.Proofs.Tryz.ntmps230 rfl ?_
  refine f_seq (f_region ?_); refine scons (r_box (ob := 10003) rfl Zz rfl rfl rfl rfl rfl rfl) (zm5 rfl rfl rfl (snil (f_seq (f_region (zm1 rfl rfl rfl ?_))))); refine zq (p_makeFunc (l := [.tmp 3]) rfl) rfl ?_; refine scons (r_callS (q := true) (ob := 10007) 0 rfl wBet_isf227 (Made_spec n (fun _ => c) hn) (sa_cons (sh_of Zz rfl) (sa_cons (sh_clo Zz wBet_isf234 (sl_cons (sh_ref1 Sees.same rfl rfl (sh_of Sees.same rfl)) (sl_nil)) (fun _ => rfl) (fun _ => rfl) (fun y => const1_spec y.1 c)) (sa_nil))) (.inr (fun _ => rfl)) rfl rfl rfl rfl rfl) (zm4 rfl rfl rfl (snil (f_ret ?_)))
  refine endsN_ret (resN_eq (resN_row rfl rfl rfl rfl) ?_)
  rfl

theorem mcf11_spec (n : Nat) (a : List (List Int)) (m : Nat) (b : List (List Int)) (x : List Bool) (l : Int) (hl : l ≠ 0 ∧ -(x.length : Int) ≤ l ∧ l ≤ x.length) (hx : x.length ≤ 1000) :
    Spec Go.Proofs.Tryz.prog 229 [iv l, .ptr (.agg (.cons (di n) (.cons (intss a) (.cons (di m) (.cons (intss b) .nil))))), .ptr (bools x)] (D.bool (Sp.occ b (Sp.av l) && Sp.lit x l)) := by
  refine spec_of' Go.Proofs.Tryz.func229 rfl Go.Proofs.Tryz.ntmps229 rfl ?_
  refine f_seq (f_region (zm2 rfl rfl rfl (snil (f_seq ?_)))); refine f_draw wBet_mix (by kernel_rfl) ?_; refine yq (p_fieldAddrA rfl wBet_fld127_1 wBet_siz25 rfl Zz rfl) rfl ?_; refine yq (p_loadS rfl wBet_agg25 wBet_siz25 Zz ⟨rfl, fun h => R_len rfl h⟩) rfl (zd1 rfl rfl rfl ?_); refine yc (c_call rfl wBet_isf43 ⟨_, _, rfl, Zz, rfl, rfl⟩ (var_spec l (by omega))) rfl ?_; refine yc (c_call rfl wBet_isf225 ⟨_, _, rfl, Zz, rfl, ⟨_, _, rfl, Zz, rfl, rfl⟩⟩ ((show Spec _ _ _ (D.bool (Sp.occ b (Sp.av l))) from occurs_spec m b (max l (-l)) (by omega)))) rfl (zd1 rfl rfl rfl ?_); refine dcons (CStep.guard rfl rfl rfl (fun hg0 => PStep.c (p_move (y := .val _) rfl Zz rfl)) rfl rfl rfl rfl rfl) ?_; refine dcons (CStep.guard rfl rfl rfl (fun hg0 => PStep.c (p_load rfl wBet_agg33 Zz rfl)) rfl rfl rfl rfl rfl) ?_; refine dcons (CStep.guard rfl rfl rfl (fun hg0 => c_call rfl wBet_isf123 ⟨_, _, rfl, (Sees.gv' rfl hg0), rfl, ⟨_, _, rfl, (Sees.gv' rfl hg0), rfl, rfl⟩⟩ (true_spec l x hl)) rfl rfl rfl rfl rfl) ?_; refine yq (p_and rfl Zz (fun h => Sees.gv' rfl (beq_of_eq h)) Zz) rfl (zd2 rfl rfl rfl ?_); refine dnil (by kernel_rfl) (f_ret ?_)
  refine ends_ret (res_eq (res1 rfl (res_tmp rfl (Sees.of rfl))) ?_)
  rfl

theorem mcf1_spec (n : Nat) (a : List (List Int)) (m : Nat) (b : List (List Int)) (c : List Int) (x : List Bool) (hx : x.length = n) (hn : n ≤ 16) (hg : ∀ l ∈ c, l ≠ 0 ∧ -(n : Int) ≤ l ∧ l ≤ n) :
    Spec Go.Proofs.Tryz.prog 228 [.val (bools x), .ptr (ints c), .ptr (.agg (.cons (di n) (.cons (intss a) (.cons (di m) (.cons (intss b) .nil)))))] (D.bool (Sp.mcF b c x)) := by
  refine spec_of' Go.Proofs.Tryz.func228 rfl Go.Proofs.Tryz.ntmps228 rfl ?_
  refine f_seq (f_region ?_); refine scons (r_box (ob := 10003) rfl Zz rfl rfl rfl rfl rfl rfl) (zm2 rfl rfl rfl (snil (f_seq (f_region ?_)))); refine zq (p_load rfl wBet_agg22 Zz rfl) rfl ?_; refine zq (p_makeFunc (l := [.tmp 2, .tmp 3]) rfl) rfl ?_; refine zc (c_callS (q := true) rfl wBet_isf121 (containsI_spec c (fun l => Sp.occ b (Sp.av l) && Sp.lit x l) (fun l => l ≠ 0 ∧ -(n : Int) ≤ l ∧ l ≤ n) hg) (sa_cons (sh_of Zz rfl) (sa_cons (sh_clo Zz wBet_isf229 (sl_cons (sh_of Sees.same rfl) (sl_cons (sh_ref1 Sees.same rfl rfl (sh_of Sees.same rfl)) (sl_nil))) (fun _ => rfl) (fun _ => rfl) (fun y => mcf11_spec n a m b x y.1 (by rw [hx]; exact y.2) (by omega))) (sa_nil))) rfl) rfl ?_; refine zm2 rfl rfl rfl (snil (f_ret ?_))
  refine ends_ret (res_eq (res1 rfl (res_tmp rfl (Sees.of rfl))) ?_)
  rfl

theorem mcFirst_spec (n : Nat) (a : List (List Int)) (m : Nat) (b : List (List Int)) (c : List Int) (hn : n ≤ 16) (hg : ∀ l ∈ c, l ≠ 0 ∧ -(n : Int) ≤ l ∧ l ≤ n) :
    SpecN Go.Proofs.Tryz.prog 223 [.val (.agg (.cons (di n) (.cons (intss a) (.cons (di m) (.cons (intss b) .nil))))), .val (ints c)] 5 1 1 dby (Sp.btab (Sp.mcF b c) n) := by
  refine specN_of' Go.Proofs.Tryz.func223 rfl Go.Proofs.Tryz.ntmps223 rfl ?_
  refine f_seq (f_region ?_); refine scons (r_box (ob := 10002) rfl Zz rfl rfl rfl rfl rfl rfl) ?_; refine scons (r_box (ob := 10003) rfl Zz rfl rfl rfl rfl rfl rfl) (zm5 rfl rfl rfl (snil (f_seq (f_region ?_)))); refine zq (p_fieldRef rfl wBet_fld127_0 wBet_siz25 rfl Zz rfl) rfl ?_; refine zq (p_fieldRef rfl wBet_fld25_0 wBet_siz3 rfl Zz rfl) rfl ?_; refine zq (p_loadB (y := .val _) rfl wBet_agg3 Zz rfl rfl rfl rfl) rfl ?_; refine zq (p_makeFunc (l := [.tmp 3, .tmp 2]) rfl) rfl ?_; refine scons (r_callS (q := true) (ob := 10009) 0 rfl wBet_isf227 (Made_spec n (Sp.mcF b c) hn) (sa_cons (sh_of Zz rfl) (sa_cons (sh_clo Zz wBet_isf228 (sl_cons (sh_ref1 Sees.same rfl rfl (sh_of Sees.same rfl)) (sl_cons (sh_refS Sees.same rfl (shc_cons (sh_of Sees.same rfl) (shc_cons (sh_of Sees.same rfl) (shc_cons (sh_of Sees.same rfl) (shc_cons (sh_of Sees.same rfl) (shc_nil)))))) (sl_nil))) (fun _ => rfl) (fun _ => rfl) (fun y => mcf1_spec n a m b c y.1 y.2 hn hg)) (sa_nil))) (.inr (fun _ => rfl)) rfl rfl rfl rfl rfl) (zm4 rfl rfl rfl (snil (f_ret ?_)))
  refine endsN_ret (resN_eq (resN_row rfl rfl rfl rfl) ?_)
  rfl

theorem mcSecond_spec (n : Nat) (a : List (List Int)) (m : Nat) (b : List (List Int)) (hn : n ≤ 16) :
    SpecN Go.Proofs.Tryz.prog 224 [.val (.agg (.cons (di n) (.cons (intss a) (.cons (di m) (.cons (intss b) .nil)))))] 5 1 1 dby (Sp.btab (fun _ => true) n) := by
  refine specN_of' Go.Proofs.Tryz.func224 rfl Go.Proofs.Tryz.ntmps224 rfl ?_
  refine f_seq (f_region ?_); refine scons (r_box (ob := 10001) rfl Zz rfl rfl rfl rfl rfl rfl) (zm5 rfl rfl rfl (snil (f_seq (f_region ?_)))); refine zq (p_fieldRef rfl wBet_fld127_0 wBet_siz25 rfl Zz rfl) rfl ?_; refine zq (p_fieldRef rfl wBet_fld25_0 wBet_siz3 rfl Zz rfl) rfl ?_; refine zq (p_loadB (y := .val _) rfl wBet_agg3 Zz rfl rfl rfl rfl) rfl ?_; refine scons (r_callS (q := false) (ob := 10006) 0 rfl wBet_isf230 (constant_spec n true hn) (sa_cons (sh_of Zz rfl) (sa_cons (sh_of Zz rfl) (sa_nil))) (.inl rfl) rfl rfl rfl rfl rfl) (zm4 rfl rfl rfl (snil (f_ret ?_)))
  refine endsN_ret (resN_eq (resN_row rfl rfl rfl rfl) ?_)
  rfl

theorem mcBoth_spec (n : Nat) (a : List (List Int)) (m : Nat) (b : List (List Int)) (v : Int) (p q : List Bool → Bool) (hn : n ≤ 16) (hv : -9223372036854775808 < v ∧ v ≤ 9223372036854775807) :
    SpecN Go.Proofs.Tryz.prog 222 [.val (.agg (.cons (di n) (.cons (intss a) (.cons (di m) (.cons (intss b) .nil))))), iv v, .val (bytes (Sp.btab p n)), .val (bytes (Sp.btab q n))] 5 1 1 dby (Sp.btab (fun x => if Sp.occ b v = true then p x && q x else p x || q x) n) := by
  refine specN_of' Go.Proofs.Tryz.func222 rfl Go.Proofs.Tryz.ntmps222 rfl ?_
  refine f_seq (f_region ?_); refine scons (r_box (ob := 10004) rfl Zz rfl rfl rfl rfl rfl rfl) (zm5 rfl rfl rfl (snil (f_seq (f_seq (f_region ?_))))); refine zq (p_fieldRef rfl wBet_fld127_1 wBet_siz25 rfl Zz rfl) rfl ?_; refine zq (p_loadBSO rfl wBet_agg25 wBet_siz25 Zz rfl rfl rfl rfl) rfl (zm1 rfl rfl rfl ?_); refine zc (c_call rfl wBet_isf225 ⟨_, _, rfl, Zz, rfl, ⟨_, _, rfl, Zz, rfl, rfl⟩⟩ (occurs_spec m b v hv)) rfl (snil (f_cond rfl ?_ ?_))
  · intro hc1; (try simp only [bs] at hc1); refine f_seq (f_region (zm1 rfl rfl rfl (zm1 rfl rfl rfl ?_))); refine scons (r_callS (q := false) (ob := 10015) 0 rfl wBet_isf226 (Combined_spec n 8 p q hn (by omega)) (sa_cons (sh_of Zz rfl) (sa_cons (sh_of Zz rfl) (sa_cons (sh_of Zz rfl) (sa_nil)))) (.inl rfl) rfl rfl rfl rfl rfl) (zm4 rfl rfl rfl (snil (f_ret ?_)))
    refine endsN_ret (resN_eq (resN_row rfl rfl rfl rfl) ?_)
    refine congrArg (fun f => Sp.btab f n) (funext fun x => ?_)
    rw [if_pos hc1]
    cases p x <;> cases q x <;> decide
  · intro hc1; (try simp only [bs] at hc1); refine f_skip (f_seq (f_region (zm1 rfl rfl rfl (zm1 rfl rfl rfl ?_)))); refine scons (r_callS (q := false) (ob := 10018) 0 rfl wBet_isf226 (Combined_spec n 14 p q hn (by omega)) (sa_cons (sh_of Zz rfl) (sa_cons (sh_of Zz rfl) (sa_cons (sh_of Zz rfl) (sa_nil)))) (.inl rfl) rfl rfl rfl rfl rfl) (zm4 rfl rfl rfl (snil (f_ret ?_)))
    refine endsN_ret (resN_eq (resN_row rfl rfl rfl rfl) ?_)
    refine congrArg (fun f => Sp.btab f n) (funext fun x => ?_)
    rw [if_neg (by rw [hc1]; decide)]
    cases p x <;> cases q x <;> decide

theorem puFirst_spec (n : Nat) (a : List (List Int)) (m : Nat) (b : List (List Int)) (c : List Int) (hn : n ≤ 16) :
    SpecN Go.Proofs.Tryz.prog 236 [.val (.agg (.cons (di n) (.cons (intss a) (.cons (di m) (.cons (intss b) .nil))))), .val (ints c)] 5 1 1 dby (Sp.btab (fun _ => false) n) := by
  refine specN_of' Go.Proofs.Tryz.func236 rfl Go.Proofs.Tryz.ntmps236 rfl ?_
  refine f_seq (f_region ?_); refine scons (r_box (ob := 10002) rfl Zz rfl rfl rfl rfl rfl rfl) (zm5 rfl rfl rfl (snil (f_seq (f_region ?_)))); refine zq (p_fieldRef rfl wBet_fld128_0 wBet_siz25 rfl Zz rfl) rfl ?_; refine zq (p_fieldRef rfl wBet_fld25_0 wBet_siz3 rfl Zz rfl) rfl ?_; refine zq (p_loadB (y := .val _) rfl wBet_agg3 Zz rfl rfl rfl rfl) rfl ?_; refine scons (r_callS (q := false) (ob := 10008) 0 rfl wBet_isf230 (constant_spec n false hn) (sa_cons (sh_of Zz rfl) (sa_cons (sh_of Zz rfl) (sa_nil))) (.inl rfl) rfl rfl rfl rfl rfl) (zm4 rfl rfl rfl (snil (f_ret ?_)))
  refine endsN_ret (resN_eq (resN_row rfl rfl rfl rfl) ?_)
  rfl

theorem puSecond_spec (n : Nat) (a : List (List Int)) (m : Nat) (b : List (List Int)) (hn : n ≤ 16) :
    SpecN Go.Proofs.Tryz.prog 237 [.val (.agg (.cons (di n) (.cons (intss a) (.cons (di m) (.cons (intss b) .nil)))))] 5 1 1 dby (Sp.btab (fun _ => true) n) := by
  refine specN_of' Go.Proofs.Tryz.func237 rfl Go.Proofs.Tryz.ntmps237 rfl ?_
  refine f_seq (f_region ?_); refine scons (r_box (ob := 10001) rfl Zz rfl rfl rfl rfl rfl rfl) (zm5 rfl rfl rfl (snil (f_seq (f_region ?_)))); refine zq (p_fieldRef rfl wBet_fld128_0 wBet_siz25 rfl Zz rfl) rfl ?_; refine zq (p_fieldRef rfl wBet_fld25_0 wBet_siz3 rfl Zz rfl) rfl ?_; refine zq (p_loadB (y := .val _) rfl wBet_agg3 Zz rfl rfl rfl rfl) rfl ?_; refine scons (r_callS (q := false) (ob := 10006) 0 rfl wBet_isf230 (constant_spec n true hn) (sa_cons (sh_of Zz rfl) (sa_cons (sh_of Zz rfl) (sa_nil))) (.inl rfl) rfl rfl rfl rfl rfl) (zm4 rfl rfl rfl (snil (f_ret ?_)))
  refine endsN_ret (resN_eq (resN_row rfl rfl rfl rfl) ?_)
  rfl

theorem puBoth_spec (n : Nat) (a : List (List Int)) (m : Nat) (b : List (List Int)) (v : Int) (p q : List Bool → Bool) (hn : n ≤ 16) (hv : 1 ≤ v ∧ v ≤ n) :
    SpecN Go.Proofs.Tryz.prog 235 [.val (.agg (.cons (di n) (.cons (intss a) (.cons (di m) (.cons (intss b) .nil))))), iv v, .val (bytes (Sp.btab p n)), .val (bytes (Sp.btab q n))] 5 1 1 dby (Sp.btab (Sp.puB a b v p q) n) := by
  refine specN_of' Go.Proofs.Tryz.func235 rfl Go.Proofs.Tryz.ntmps235 rfl ?_
  refine f_seq ?_
  have hp16 := Sp.pow16 hn
  have hl1 := Sp.btab_len p n
  have hl2 := Sp.btab_len q n
  have hpv : ((n : Int) - v).toNat = n - v.toNat := by omega
  refine f_region ?_; refine scons (r_box (ob := 10004) rfl Zz rfl rfl rfl rfl rfl rfl) (zm5 rfl rfl rfl (snil (f_seq (f_block (f_seq (f_region ?_)))))); refine zq (p_fieldRef rfl wBet_fld128_1 wBet_siz25 rfl Zz rfl) rfl ?_; refine zq (p_loadBSO rfl wBet_agg25 wBet_siz25 Zz rfl rfl rfl rfl) rfl (zm1 rfl rfl rfl ?_); refine zc (c_call rfl wBet_isf225 ⟨_, _, rfl, Zz, rfl, ⟨_, _, rfl, Zz, rfl, rfl⟩⟩ (occurs_spec m b v (by omega))) rfl ?_; refine zq (p_not rfl Zz) rfl (zm2 rfl rfl rfl (snil (f_cond rfl ?_ ?_)))
  · intro hc1; (try simp only [bs] at hc1); refine f_seq (f_region (zm1 rfl rfl rfl (zm1 rfl rfl rfl ?_))); refine scons (r_callS (q := false) (ob := 10019) 0 rfl wBet_isf226 (Combined_spec n 14 p q hn (by omega)) (sa_cons (sh_of Zz rfl) (sa_cons (sh_of Zz rfl) (sa_cons (sh_of Zz rfl) (sa_nil)))) (.inl rfl) rfl rfl rfl rfl rfl) (zm4 rfl rfl rfl (snil (f_ret ?_)))
    refine endsN_ret (resN_eq (resN_row rfl rfl rfl rfl) ?_)
    refine congrArg (fun f => Sp.btab f n) (funext fun x => ?_)
    rw [Sp.puB, if_pos hc1]
    cases p x <;> cases q x <;> decide
  · intro hc1; (try simp only [bs] at hc1); refine f_seq (f_region ?_); refine zq (p_fieldRef rfl wBet_fld128_0 wBet_siz25 rfl Zz rfl) rfl ?_; refine zq (p_loadBSO rfl wBet_agg25 wBet_siz25 Zz rfl rfl rfl rfl) rfl (zm1 rfl rfl rfl ?_); refine zc (c_call rfl wBet_isf225 ⟨_, _, rfl, Zz, rfl, ⟨_, _, rfl, Zz, rfl, rfl⟩⟩ (occurs_spec n a v (by omega))) rfl ?_; refine zq (p_not rfl Zz) rfl (zm2 rfl rfl rfl (snil (f_cond rfl ?_ ?_)))
    · intro hc2; (try simp only [bs] at hc2); refine f_seq (f_region (zm1 rfl rfl rfl (zm1 rfl rfl rfl ?_))); refine scons (r_callS (q := false) (ob := 10028) 0 rfl wBet_isf226 (Combined_spec n 8 p q hn (by omega)) (sa_cons (sh_of Zz rfl) (sa_cons (sh_of Zz rfl) (sa_cons (sh_of Zz rfl) (sa_nil)))) (.inl rfl) rfl rfl rfl rfl rfl) (zm4 rfl rfl rfl (snil (f_ret ?_)))
      refine endsN_ret (resN_eq (resN_row rfl rfl rfl rfl) ?_)
      refine congrArg (fun f => Sp.btab f n) (funext fun x => ?_)
      rw [Sp.puB, if_neg (by rw [hc1]; decide), if_pos hc2]
      cases p x <;> cases q x <;> decide
    · intro hc2; (try simp only [bs] at hc2); refine f_skip (f_nil ?_); show AWs _ _ _ _ _; refine f_seq (f_region (zm1 rfl rfl rfl ?_)); refine scons (r_callS (q := false) (ob := 10030) 0 rfl wBet_isf232 (cloneT_spec (Sp.btab p n)) (sa_cons (sh_of Zz rfl) (sa_nil)) (.inl rfl) rfl rfl rfl rfl rfl) (zm4 rfl rfl rfl (snil (f_seq (f_seq (f_region (zm3 rfl rfl rfl ?_)))))); refine zq (p_lenR rfl wBet_isl164 Zz rfl) rfl (zm1 rfl rfl rfl (snil (f_block ?_)))
      refine f_loop (α := Nat) (fun i => i ≤ 2 ^ n) (fun i => [(4, .ref 10004 0 0), (10004, .box 0 (.ccons (iv n) (.ccons (.val (intss a)) (.ccons (iv m) (.ccons (.val (intss b)) .cnil))))), (1, iv v), (3, .val (bytes (Sp.btab q n))), (33, iv i), (32, iv (2 ^ n : Nat)), (9, .row 10030 0), (10030, .arr 0 5 1 1 dby 0 (Sp.fillTo (2 ^ n) (fun k : Nat => Sp.b01 (p (Sp.bits n k))) (fun k : Nat => Sp.b01 ((Sp.puB a b v p q) (Sp.bits n k))) i)), (8, .emp)]) (fun i => 2 ^ n - i) 0 ?_ ?_ ?_
      · exact Nat.zero_le _
      · exact le_ofL ⟨rfl, rfl, rfl, rfl, rfl, (by rw [← Sp.btab_len p n]; rfl), rfl, (by rw [Sp.fill_zero, ← Sp.btab_map]; rfl), rfl, trivial⟩ rfl
      · rintro i hi
        have hi : i ≤ 2 ^ n := hi
        have hfl := Sp.fill_len (2 ^ n) (fun k : Nat => Sp.b01 (p (Sp.bits n k))) (fun k : Nat => Sp.b01 ((Sp.puB a b v p q) (Sp.bits n k))) i
        refine f_seq (f_region ?_); refine zq (p_lss rfl Zz Zz) rfl (snil (f_seq (f_cond rfl ?_ ?_)))
        · intro hc3; (try simp only [bs] at hc3); refine f_skip (f_seq (f_block (f_seq (f_region (zm1 rfl rfl rfl (zm2 rfl rfl rfl (snil (f_seq ?_))))))))
          have hbt := Sp.bit_at (n := n) (i := i) hv
          have hqa := Sp.btab_at q n i (by omega)
          refine f_region (zm1 rfl rfl rfl ?_); refine zq (p_fieldRef rfl wBet_fld128_0 wBet_siz25 rfl Zz rfl) rfl ?_; refine zq (p_fieldRef rfl wBet_fld25_0 wBet_siz3 rfl Zz rfl) rfl ?_; refine zq (p_loadB (y := .val _) rfl wBet_agg3 Zz rfl rfl rfl rfl) rfl (zm1 rfl rfl rfl ?_); refine zq (p_sub rfl Zz Zz (by omega)) rfl ?_; refine zq (p_shr rfl Zz Zz (by omega) (by omega)) rfl ?_; refine zq (p_and1 rfl Zz Zz) rfl ?_; refine zq (p_eql rfl Zz Zz) rfl (snil (f_cond rfl ?_ ?_))
          · intro hc4; (try simp only [bs] at hc4); refine f_region (zm3 rfl rfl rfl (zm1 rfl rfl rfl (zm1 rfl rfl rfl (zm1 rfl rfl rfl ?_)))); refine zq ((by first | exact p_indexN rfl wBet_isl164 wBet_siz5 Zz Zz (by rw [hl2]; omega) | exact p_index rfl wBet_isl164 wBet_siz5 Zz Zz (by omega) (by rw [hl2]; omega))) rfl ?_; refine zq (p_load rfl wBet_agg5 Zz rfl) rfl ?_; refine zq ((by first | exact p_indexR rfl wBet_isl164 wBet_siz5 Zz rfl Zz (by rw [hfl]; omega) | exact p_indexRZ rfl wBet_isl164 wBet_siz5 Zz rfl Zz (by omega) (by rw [hfl]; omega))) rfl ?_; refine scons (r_storeE rfl wBet_siz5 rfl rfl rfl Zz rfl (by rw [hfl]; omega) Zz rfl) ?_; refine snil (f_nil ?_); show AWs _ _ _ _ _; refine f_region ?_; refine zq (p_add rfl Zz Zz (by omega)) rfl (zm1 rfl rfl rfl (snil ?_))
            refine f_back ⟨i + 1, ?_, ?_, le_ofL ⟨rfl, rfl, rfl, rfl, rfl, rfl, rfl, (by rw [← Sp.fill_to (x := (Sp.btab q n).getD i 0) (by omega) (by rw [hqa]; show Sp.b01 (Sp.puB a b v p q (Sp.bits n i)) = _; rw [Sp.puB, if_neg (by rw [hc1]; decide), if_neg (by rw [hc2]; decide), hbt, if_pos (decide_eq_true (by rw [hpv] at hc4; exact hc4))])]; rfl), rfl, trivial⟩ rfl⟩
            · omega
            · omega
          · intro hc4; (try simp only [bs] at hc4); refine f_skip (f_nil ?_); show AWs _ _ _ _ _; refine f_region ?_; refine zq (p_add rfl Zz Zz (by omega)) rfl (zm1 rfl rfl rfl (snil ?_))
            refine f_back ⟨i + 1, ?_, ?_, le_ofL ⟨rfl, rfl, rfl, rfl, rfl, rfl, rfl, (by rw [Sp.fill_same (by show Sp.b01 (Sp.puB a b v p q (Sp.bits n i)) = _; rw [Sp.puB, if_neg (by rw [hc1]; decide), if_neg (by rw [hc2]; decide), hbt, if_neg (by rw [decide_eq_true_eq]; rw [hpv] at hc4; exact hc4)])]; rfl), rfl, trivial⟩ rfl⟩
            · omega
            · omega
        · intro hc3; (try simp only [bs] at hc3); refine f_exit ?_; show AWs _ _ _ _ _; refine f_seq (f_region (zm3 rfl rfl rfl (zm4 rfl rfl rfl (snil (f_ret ?_)))))
          refine endsN_ret (resN_eq (resN_row rfl rfl rfl rfl) ?_)
          rw [Sp.fill_end _ _ (by omega), Sp.btab_map]

end Go.Um
