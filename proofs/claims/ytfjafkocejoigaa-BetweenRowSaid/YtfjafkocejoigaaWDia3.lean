/- Walks of Go functions of this seat, each by its contract. No condition beyond what each theorem says. -/
import Derived.Test.YtfjafkocejoigaaWDia2
import Derived.Test.YtfjafkocejoigaaPC
import Derived.Test.YtfjafkocejoigaaProg
import Derived.KernelRfl
import Derived.Test.YtfjafkocejoigaaQ
set_option maxRecDepth 4000
namespace Go.Um
open Go Go.RowKit

theorem wDia3_agg27 : IsAgg Go.Proofs.Try.prog 27 false := by unfold IsAgg; kernel_rfl
theorem wDia3_agg29 : IsAgg Go.Proofs.Try.prog 29 true := by unfold IsAgg; kernel_rfl
theorem wDia3_agg3 : IsAgg Go.Proofs.Try.prog 3 false := by unfold IsAgg; kernel_rfl
theorem wDia3_agg31 : IsAgg Go.Proofs.Try.prog 31 true := by unfold IsAgg; kernel_rfl
theorem wDia3_agg5 : IsAgg Go.Proofs.Try.prog 5 false := by unfold IsAgg; kernel_rfl
theorem wDia3_agg61 : IsAgg Go.Proofs.Try.prog 61 false := by unfold IsAgg; kernel_rfl
theorem wDia3_agg62 : IsAgg Go.Proofs.Try.prog 62 false := by unfold IsAgg; kernel_rfl
theorem wDia3_agg80 : IsAgg Go.Proofs.Try.prog 80 true := by unfold IsAgg; kernel_rfl
theorem wDia3_byt80 : Bytes Go.Proofs.Try.prog 80 24 := by unfold Bytes; kernel_rfl
theorem wDia3_eq380 : Eq3 Go.Proofs.Try.prog 80 := ⟨_, _, _, Go.Proofs.Try.underlying80, by decide, by decide, by decide, rfl, rfl, rfl, Go.Proofs.Try.underlying3, Go.Proofs.Try.underlying3, Go.Proofs.Try.underlying3, by kernel_rfl, by kernel_rfl⟩
theorem wDia3_fld29_0 : IsField Go.Proofs.Try.prog 29 0 0 27 := by unfold IsField; kernel_rfl
theorem wDia3_fld29_1 : IsField Go.Proofs.Try.prog 29 1 1 3 := by unfold IsField; kernel_rfl
theorem wDia3_fld64_0 : IsField Go.Proofs.Try.prog 64 0 0 27 := by unfold IsField; kernel_rfl
theorem wDia3_fld64_1 : IsField Go.Proofs.Try.prog 64 1 1 61 := by unfold IsField; kernel_rfl
theorem wDia3_fld64_2 : IsField Go.Proofs.Try.prog 64 2 2 62 := by unfold IsField; kernel_rfl
theorem wDia3_fld80_1 : IsField Go.Proofs.Try.prog 80 1 1 3 := by unfold IsField; kernel_rfl
theorem wDia3_fld80_2 : IsField Go.Proofs.Try.prog 80 2 2 3 := by unfold IsField; kernel_rfl
theorem wDia3_int3 : IsInt Go.Proofs.Try.prog 3 .i64 := by unfold IsInt; kernel_rfl
theorem wDia3_int5 : IsInt Go.Proofs.Try.prog 5 .u8 := by unfold IsInt; kernel_rfl
theorem wDia3_isf29 : IsFn Go.Proofs.Try.prog 29 := by unfold IsFn; kernel_rfl
theorem wDia3_isl27 : IsSlice Go.Proofs.Try.prog 27 80 := by unfold IsSlice; kernel_rfl
theorem wDia3_isl42 : IsSlice Go.Proofs.Try.prog 42 5 := by unfold IsSlice; kernel_rfl
theorem wDia3_mix : (Go.Proofs.Try.prog).follows .mixedOrders = true := by kernel_rfl
theorem wDia3_mty61 : MapTy Go.Proofs.Try.prog 61 80 3 vCho dCho vInt di 0 := mapTy_cho (by kernel_rfl) ⟨_, _, _, Go.Proofs.Try.underlying80, by decide, by decide, by decide, rfl, rfl, rfl, Go.Proofs.Try.underlying3, Go.Proofs.Try.underlying3, Go.Proofs.Try.underlying3, by kernel_rfl, by kernel_rfl⟩ (by unfold Zero; kernel_rfl) (fun a _ _ => val_int a) (fun a _ _ v h => valr_int a v h) (fun _ => rfl)
theorem wDia3_mty62 : MapTy Go.Proofs.Try.prog 62 9 3 Value.string D.str vInt di 0 := mapTy_str (by kernel_rfl) Go.Proofs.Try.underlying9 (by unfold Zero; kernel_rfl) (fun a _ _ => val_int a) (fun a _ _ v h => valr_int a v h) (fun _ => rfl)
theorem wDia3_plc29 : Places Go.Proofs.Try.prog 29 [(0, 1), (1, 1)] := by unfold Places; kernel_rfl
theorem wDia3_plc31 : Places Go.Proofs.Try.prog 31 [(0, 1), (1, 1)] := by unfold Places; kernel_rfl
theorem wDia3_plc64 : Places Go.Proofs.Try.prog 64 [(0, 1), (1, 1), (2, 1)] := by unfold Places; kernel_rfl
theorem wDia3_plc80 : Places Go.Proofs.Try.prog 80 [(0, 1), (1, 1), (2, 1)] := by unfold Places; kernel_rfl
theorem wDia3_siz27 : Size Go.Proofs.Try.prog 27 1 := by unfold Size; kernel_rfl
theorem wDia3_siz29 : Size Go.Proofs.Try.prog 29 2 := by unfold Size; kernel_rfl
theorem wDia3_siz3 : Size Go.Proofs.Try.prog 3 1 := by unfold Size; kernel_rfl
theorem wDia3_siz31 : Size Go.Proofs.Try.prog 31 2 := by unfold Size; kernel_rfl
theorem wDia3_siz5 : Size Go.Proofs.Try.prog 5 1 := by unfold Size; kernel_rfl
theorem wDia3_siz61 : Size Go.Proofs.Try.prog 61 1 := by unfold Size; kernel_rfl
theorem wDia3_siz62 : Size Go.Proofs.Try.prog 62 1 := by unfold Size; kernel_rfl
theorem wDia3_siz80 : Size Go.Proofs.Try.prog 80 3 := by unfold Size; kernel_rfl
def wDia3_z29 : D := .cons (chos []) (.cons (.int .i64 0) (.nil))
theorem wDia3_zch29 : ∀ (ok : Nat → Prop) (w : World), R Go.Proofs.Try.prog wDia3_z29 ok w (Value.cells (.agg #[(.slice none 0 0), (.int .i64 0)])).toList := fun _ _ => z_list (z_int (z_nil))
def wDia3_z31 : D := .cons (.int .i64 0) (.cons (.int .i64 0) (.nil))
theorem wDia3_zch31 : ∀ (ok : Nat → Prop) (w : World), R Go.Proofs.Try.prog wDia3_z31 ok w (Value.cells (.agg #[(.int .i64 0), (.int .i64 0)])).toList := fun _ _ => z_int (z_int (z_nil))
def wDia3_z80 : D := .cons (.int .i64 0) (.cons (.int .i64 0) (.cons (.int .i64 0) (.nil)))
theorem wDia3_zch80 : ∀ (ok : Nat → Prop) (w : World), R Go.Proofs.Try.prog wDia3_z80 ok w (Value.cells (.agg #[(.int .i64 0), (.int .i64 0), (.int .i64 0)])).toList := fun _ _ => z_int (z_int (z_int (z_nil)))
theorem wDia3_zer29 : Zero Go.Proofs.Try.prog 29 (.agg #[(.slice none 0 0), (.int .i64 0)]) := by unfold Zero; kernel_rfl
theorem wDia3_zer31 : Zero Go.Proofs.Try.prog 31 (.agg #[(.int .i64 0), (.int .i64 0)]) := by unfold Zero; kernel_rfl
theorem wDia3_zer64 : Zero Go.Proofs.Try.prog 64 (.agg #[(.slice none 0 0), (.map none), (.map none)]) := by unfold Zero; kernel_rfl
theorem wDia3_zer80 : Zero Go.Proofs.Try.prog 80 (.agg #[(.int .i64 0), (.int .i64 0), (.int .i64 0)]) := by unfold Zero; kernel_rfl

theorem node_spec (f k : Nat) (t : List Int) (v : Int) (L : List Sp.Cho) (sn : Sp.Seen) (res : Int × List Sp.Cho × Sp.Seen) (hmf : k < f) (ht : t.length = 2 ^ k) (hm : k ≤ 16) (h01 : ∀ x ∈ t, 0 ≤ x ∧ x ≤ 1) (hv : 0 ≤ v ∧ v + k ≤ 1000) (hL : L.length + 2 ^ k ≤ 1000000) (hres : Sp.nodeF k t v (L, sn) = res) :
    SpecB Go.Proofs.Try.prog 29 [.ref 30000 0 0, .val (bytes t), iv v] [(30000, .box 0 (.ccons (.row 30001 L.length) (.ccons (.row 30002 0) (.ccons (.row 30003 0) .cnil)))), (30001, .arr L.length 80 3 24 dCho (0, 0, 0) L), (30002, .mp 0 vCho vInt (Sp.knownOf L)), (30003, .mp 0 Value.string vInt sn)] (di res.1) [(30000, .box 0 (.ccons (.row 30001 res.2.1.length) (.ccons (.row 30002 0) (.ccons (.row 30003 0) .cnil)))), (30001, .arr res.2.1.length 80 3 24 dCho (0, 0, 0) res.2.1), (30002, .mp 0 vCho vInt (Sp.knownOf res.2.1)), (30003, .mp 0 Value.string vInt res.2.2)] := by
  induction f generalizing k t v L sn res with
  | zero => omega
  | succ f ih =>
    refine specB_of' Go.Proofs.Try.func29 rfl Go.Proofs.Try.ntmps29 rfl rfl rfl ?_
    refine f_seq ?_
    have hk16 := Sp.pow16 hm
    refine f_region (zm2 rfl rfl rfl (snil (f_seq (f_seq (f_region (zm1 rfl rfl rfl ?_)))))); refine zq (p_len rfl wDia3_isl42 Zz) rfl ?_; refine zq (p_eql rfl Zz Zz) rfl (snil (f_cond rfl ?_ ?_))
    · intro hc1; (try simp only [bs] at hc1); refine f_seq ?_
      have h0 := h01 _ (Sp.getD_mem t 0 0 (by omega))
      have h0' := h01 _ (Sp.getD_mem t (0 : Int).toNat 0 (by simp; omega))
      refine f_region (zm1 rfl rfl rfl ?_); refine zq ((by first | exact p_indexN rfl wDia3_isl42 wDia3_siz5 Zz Zz (by omega) | exact p_index rfl wDia3_isl42 wDia3_siz5 Zz Zz (by omega) (by omega))) rfl ?_; refine zq (p_load rfl wDia3_agg5 Zz rfl) rfl ?_; refine zq (p_conv64 rfl wDia3_int5 wDia3_int3 Zz (by omega)) rfl (zm2 rfl rfl rfl (snil (f_ret ?_)))
      obtain rfl : k = 0 := by
        rcases Nat.eq_zero_or_pos k with h | h
        · exact h
        · have h3 : 2 ^ k = 1 := by omega
          have h4 := Nat.pow_lt_pow_right (a := 2) (by decide) h
          exact absurd h4 (by rw [h3]; decide)
      have e : Sp.nodeF 0 t v (L, sn) = (t.getD 0 0, (L, sn)) := rfl
      rw [hres] at e
      subst e
      refine endsB_ret (resB_eq (resB_tmp rfl rfl (Sees.of rfl)) ?_) ⟨rfl, rfl, rfl, rfl, rfl, trivial⟩ rfl
      rfl
    · intro hc1; (try simp only [bs] at hc1)
      obtain ⟨m, rfl⟩ : ∃ q, k = q + 1 := ⟨k - 1, by
        rcases Nat.eq_zero_or_pos k with h | h
        · subst h; simp at ht; omega
        · omega⟩
      have hp : 2 ^ (m + 1) = 2 ^ m + 2 ^ m := by rw [Nat.pow_succ]; omega
      have hp1 : 1 ≤ 2 ^ m := Nat.one_le_two_pow
      refine f_skip (f_seq (f_seq ?_)); refine f_draw wDia3_mix (by kernel_rfl) ?_; refine yq (p_move (y := .ref _ _ _) rfl Zz rfl) rfl ?_; refine yq (p_nilRef rfl Zz rfl) rfl ?_; refine yq (p_fieldRef rfl wDia3_fld64_2 wDia3_siz62 rfl Zz rfl) rfl ?_; refine yq (p_loadB (y := .row _ _) rfl wDia3_agg62 Zz rfl rfl rfl rfl) rfl (zd1 rfl rfl rfl ?_); refine yq (p_bytesStr rfl wDia3_isl42 Go.Proofs.Try.underlying5 Go.Proofs.Try.underlying9 Zz) rfl ?_; refine yq (p_lookOk rfl wDia3_mty62 Zz rfl Zz) rfl (zd1 rfl rfl rfl ?_); refine yq (p_extract rfl Zz rfl) rfl ?_; refine yq (p_extract rfl Zz rfl) rfl (zd2 rfl rfl rfl (zd2 rfl rfl rfl ?_)); refine dnil (by kernel_rfl) (f_seq (f_region (zm1 rfl rfl rfl (snil (f_cond rfl ?_ ?_)))))
      · intro hc2; (try simp only [bs] at hc2); refine f_seq (f_region (zm1 rfl rfl rfl (zm2 rfl rfl rfl (snil (f_ret ?_)))))
        have e : Sp.nodeF (m + 1) t v (L, sn) = ((getL sn (strOfNums t)).getD 0, (L, sn)) := by rw [Sp.nodeF_step rfl rfl, if_pos hc2]
        rw [hres] at e
        subst e
        refine endsB_ret (resB_eq (resB_tmp rfl rfl (Sees.of rfl)) ?_) ⟨rfl, rfl, rfl, rfl, rfl, trivial⟩ rfl
        rfl
      · intro hc2; (try simp only [bs] at hc2); refine f_skip (f_seq (f_region (zm1 rfl rfl rfl ?_))); refine zq (p_len rfl wDia3_isl42 Zz) rfl ?_; refine zq (p_quo rfl Zz Zz (by omega) (by omega)) rfl (zm2 rfl rfl rfl (snil (f_seq ?_)))
        have hh : ((t.length : Int) / 2) = ((2 ^ m : Nat) : Int) := by omega
        rw [hh]
        have hlA := Sp.nodeF_len m (t.take (2 ^ m)) (v + 1) (L, sn)
        have hlB := Sp.nodeF_len m ((t.drop (2 ^ m)).take (t.length - 2 ^ m)) (v + 1) (Sp.nodeF m (t.take (2 ^ m)) (v + 1) (L, sn)).2
        simp only at hlA
        refine f_draw wDia3_mix (by kernel_rfl) (zd1 rfl rfl rfl ?_); refine yq (p_move (y := .ref _ _ _) rfl Zz rfl) rfl (zd1 rfl rfl rfl (zd1 rfl rfl rfl ?_)); refine yq (p_slice (l := 0) (h := 2 ^ m) rfl wDia3_isl42 wDia3_siz5 Zz rfl Zz (by omega) (by omega)) rfl (zd1 rfl rfl rfl ?_); refine yq (p_add rfl Zz Zz (by omega)) rfl ?_; refine dcons (r_callB rfl wDia3_isf29 (ih m (t.take (2 ^ m)) (v + 1) L sn _ (by omega) (by rw [List.length_take]; omega) (by omega) (fun x hx => h01 x (List.mem_of_mem_take hx)) (by omega) (by omega) rfl) ⟨_, _, rfl, Zz, ⟨_, _, rfl, Zz, ⟨_, _, rfl, Zz, rfl⟩⟩⟩ ⟨rfl, rfl, rfl, rfl, trivial⟩ rfl rfl rfl rfl rfl rfl) ?_; refine yq (p_move (y := .ref _ _ _) rfl Zz rfl) rfl (zd1 rfl rfl rfl (zd1 rfl rfl rfl ?_)); refine yq (p_slice (l := 2 ^ m) (h := t.length) rfl wDia3_isl42 wDia3_siz5 Zz Zz rfl (by omega) (by omega)) rfl (zd1 rfl rfl rfl ?_); refine yq (p_add rfl Zz Zz (by omega)) rfl ?_; refine dcons (r_callB rfl wDia3_isf29 (ih m ((t.drop (2 ^ m)).take (t.length - 2 ^ m)) (v + 1) (Sp.nodeF m (t.take (2 ^ m)) (v + 1) (L, sn)).2.1 (Sp.nodeF m (t.take (2 ^ m)) (v + 1) (L, sn)).2.2 (Sp.nodeF m ((t.drop (2 ^ m)).take (t.length - 2 ^ m)) (v + 1) (Sp.nodeF m (t.take (2 ^ m)) (v + 1) (L, sn)).2) (by omega) (by rw [List.length_take, List.length_drop]; omega) (by omega) (fun x hx => h01 x (List.mem_of_mem_drop (List.mem_of_mem_take hx))) (by omega) (by omega) rfl) ⟨_, _, rfl, Zz, ⟨_, _, rfl, Zz, ⟨_, _, rfl, Zz, rfl⟩⟩⟩ ⟨rfl, rfl, rfl, rfl, trivial⟩ rfl rfl rfl rfl rfl rfl) ?_; refine yq (p_build rfl wDia3_plc80 wDia3_zer80 (by decide) wDia3_zch80 ⟨_, _, _, rfl, rfl, rfl, Zz, ⟨_, _, _, rfl, rfl, rfl, Zz, ⟨_, _, _, rfl, rfl, rfl, Zz, rfl⟩⟩⟩ rfl) rfl ?_; refine dcons (r_alloc (ob := 10010) rfl wDia3_zer80 rfl rfl rfl rfl rfl rfl) ?_; refine dcons (r_storeS rfl wDia3_siz80 rfl rfl rfl Zz rfl Zz rfl rfl rfl rfl) ?_; refine dnil (by kernel_rfl) (f_seq ?_); refine f_draw wDia3_mix (by kernel_rfl) ?_; refine yq (p_move (y := .ref _ _ _) rfl Zz rfl) rfl ?_; refine yq (p_nilRef rfl Zz rfl) rfl ?_; refine yq (p_fieldRef rfl wDia3_fld64_1 wDia3_siz61 rfl Zz rfl) rfl ?_; refine yq (p_loadB (y := .row _ _) rfl wDia3_agg61 Zz rfl rfl rfl rfl) rfl ?_; refine yq (p_loadBS rfl wDia3_agg80 wDia3_siz80 Zz rfl rfl rfl) rfl ?_; refine yq (p_lookOk (k := (v, (Sp.nodeF m (t.take (2 ^ m)) (v + 1) (L, sn)).1, (Sp.nodeF m ((t.drop (2 ^ m)).take (t.length - 2 ^ m)) (v + 1) (Sp.nodeF m (t.take (2 ^ m)) (v + 1) (L, sn)).2).1)) rfl wDia3_mty61 Zz rfl Zz) rfl (zd1 rfl rfl rfl ?_); refine yq (p_extract rfl Zz rfl) rfl ?_; refine yq (p_extract rfl Zz rfl) rfl (zd2 rfl rfl rfl (zd2 rfl rfl rfl ?_)); refine dnil (by kernel_rfl) (f_seq (f_block (f_seq (f_region ?_)))); refine zq (p_fieldRef rfl wDia3_fld80_1 wDia3_siz3 rfl Zz rfl) rfl ?_; refine zq (p_loadB (y := .val _) rfl wDia3_agg3 Zz rfl rfl rfl rfl) rfl ?_; refine zq (p_fieldRef rfl wDia3_fld80_2 wDia3_siz3 rfl Zz rfl) rfl ?_; refine zq (p_loadB (y := .val _) rfl wDia3_agg3 Zz rfl rfl rfl rfl) rfl ?_; refine zq (p_eql rfl Zz Zz) rfl (zm2 rfl rfl rfl (snil (f_cond rfl ?_ ?_)))
        · intro hc3; (try simp only [bs] at hc3); refine f_region ?_; refine zq (p_fieldRef rfl wDia3_fld80_1 wDia3_siz3 rfl Zz rfl) rfl ?_; refine zq (p_loadB (y := .val _) rfl wDia3_agg3 Zz rfl rfl rfl rfl) rfl (zm2 rfl rfl rfl (snil (f_nil ?_))); show AWs _ _ _ _ _; refine f_seq ?_; refine f_draw wDia3_mix (by kernel_rfl) ?_; refine yq (p_move (y := .ref _ _ _) rfl Zz rfl) rfl ?_; refine yq (p_nilRef rfl Zz rfl) rfl ?_; refine yq (p_fieldRef rfl wDia3_fld64_2 wDia3_siz62 rfl Zz rfl) rfl ?_; refine yq (p_loadB (y := .row _ _) rfl wDia3_agg62 Zz rfl rfl rfl rfl) rfl (zd1 rfl rfl rfl ?_); refine yq (p_bytesStr rfl wDia3_isl42 Go.Proofs.Try.underlying5 Go.Proofs.Try.underlying9 Zz) rfl (zd1 rfl rfl rfl ?_); refine dcons (r_mapPut rfl wDia3_mty62 rfl rfl rfl Zz rfl Zz Zz) ?_; refine dnil (by kernel_rfl) (f_seq (f_region (zm1 rfl rfl rfl (zm2 rfl rfl rfl (snil (f_ret ?_))))))
          have e : Sp.nodeF (m + 1) t v (L, sn) = ((Sp.nodeF m (t.take (2 ^ m)) (v + 1) (L, sn)).1, (Sp.nodeF m ((t.drop (2 ^ m)).take (t.length - 2 ^ m)) (v + 1) (Sp.nodeF m (t.take (2 ^ m)) (v + 1) (L, sn)).2).2.1, putL (Sp.nodeF m ((t.drop (2 ^ m)).take (t.length - 2 ^ m)) (v + 1) (Sp.nodeF m (t.take (2 ^ m)) (v + 1) (L, sn)).2).2.2 (strOfNums t) (Sp.nodeF m (t.take (2 ^ m)) (v + 1) (L, sn)).1) := by rw [Sp.nodeF_step rfl rfl, if_neg (by rw [hc2]; decide), if_pos hc3]
          rw [hres] at e
          subst e
          refine endsB_ret (resB_eq (resB_tmp rfl rfl (Sees.of rfl)) ?_) ⟨rfl, rfl, rfl, rfl, rfl, trivial⟩ rfl
          rfl
        · intro hc3; (try simp only [bs] at hc3); refine f_seq (f_region (zm1 rfl rfl rfl ?_)); refine zq (p_not rfl Zz) rfl (zm2 rfl rfl rfl (snil (f_cond rfl ?_ ?_)))
          · intro hc4; (try simp only [bs] at hc4); refine f_seq ?_; refine f_draw wDia3_mix (by kernel_rfl) ?_; refine yq (p_move (y := .ref _ _ _) rfl Zz rfl) rfl ?_; refine yq (p_move (y := .ref _ _ _) rfl Zz rfl) rfl ?_; refine yq (p_nilRef rfl Zz rfl) rfl ?_; refine yq (p_fieldRef rfl wDia3_fld64_0 wDia3_siz27 rfl Zz rfl) rfl ?_; refine yq (p_loadB (y := .row _ _) rfl wDia3_agg27 Zz rfl rfl rfl rfl) rfl ?_; refine yq (p_loadBS rfl wDia3_agg80 wDia3_siz80 Zz rfl rfl rfl) rfl ?_; refine yc (c_buildSlice (f := dCho) (za := (0, 0, 0)) (xs := [.tmp 76]) rfl rfl wDia3_isl27 wDia3_siz80 wDia3_zer80 rfl rfl ⟨(_, _, _), _, rfl, Zz, rfl, rfl, rfl⟩) rfl ?_; refine dcons (r_appendR (ob := 30001) rfl wDia3_isl27 wDia3_siz80 wDia3_byt80 wDia3_zer80 rfl rfl Zz rfl Zz (by simp only [List.length_cons, List.length_nil, List.length_append]; omega) (by simp only [List.length_cons, List.length_nil, List.length_append]; omega) rfl rfl rfl rfl rfl) ?_; refine yq (p_nilRef rfl Zz rfl) rfl ?_; refine yq (p_fieldRef rfl wDia3_fld64_0 wDia3_siz27 rfl Zz rfl) rfl ?_; refine dcons (r_storeR rfl wDia3_siz27 rfl rfl rfl Zz rfl rfl Zz rfl) ?_; refine dnil (by kernel_rfl) (f_seq ?_)
            have hln : ((Sp.nodeF m ((t.drop (2 ^ m)).take (t.length - 2 ^ m)) (v + 1) (Sp.nodeF m (t.take (2 ^ m)) (v + 1) (L, sn)).2).2.1 ++ [(v, (Sp.nodeF m (t.take (2 ^ m)) (v + 1) (L, sn)).1, (Sp.nodeF m ((t.drop (2 ^ m)).take (t.length - 2 ^ m)) (v + 1) (Sp.nodeF m (t.take (2 ^ m)) (v + 1) (L, sn)).2).1)]).length = (Sp.nodeF m ((t.drop (2 ^ m)).take (t.length - 2 ^ m)) (v + 1) (Sp.nodeF m (t.take (2 ^ m)) (v + 1) (L, sn)).2).2.1.length + 1 := by simp
            refine f_region ?_; refine zq (p_move (y := .ref _ _ _) rfl Zz rfl) rfl ?_; refine zq (p_nilRef rfl Zz rfl) rfl ?_; refine zq (p_fieldRef rfl wDia3_fld64_0 wDia3_siz27 rfl Zz rfl) rfl ?_; refine zq (p_loadB (y := .row _ _) rfl wDia3_agg27 Zz rfl rfl rfl rfl) rfl ?_; refine zq (p_lenR rfl wDia3_isl27 Zz rfl) rfl ?_; refine zq (p_add rfl Zz Zz (by simp only [List.length_append, List.length_cons, List.length_nil]; omega)) rfl ?_; refine zm2 rfl rfl rfl (snil ?_); refine f_draw wDia3_mix (by kernel_rfl) ?_; refine yq (p_move (y := .ref _ _ _) rfl Zz rfl) rfl ?_; refine yq (p_nilRef rfl Zz rfl) rfl ?_; refine yq (p_fieldRef rfl wDia3_fld64_1 wDia3_siz61 rfl Zz rfl) rfl ?_; refine yq (p_loadB (y := .row _ _) rfl wDia3_agg61 Zz rfl rfl rfl rfl) rfl ?_; refine yq (p_loadBS rfl wDia3_agg80 wDia3_siz80 Zz rfl rfl rfl) rfl (zd1 rfl rfl rfl ?_); refine dcons (r_mapPut (k := (v, (Sp.nodeF m (t.take (2 ^ m)) (v + 1) (L, sn)).1, (Sp.nodeF m ((t.drop (2 ^ m)).take (t.length - 2 ^ m)) (v + 1) (Sp.nodeF m (t.take (2 ^ m)) (v + 1) (L, sn)).2).1)) rfl wDia3_mty61 rfl rfl rfl Zz rfl Zz Zz) ?_; refine dnil (by kernel_rfl) (f_nil ?_); show AWs _ _ _ _ _; refine f_seq ?_; refine f_draw wDia3_mix (by kernel_rfl) ?_; refine yq (p_move (y := .ref _ _ _) rfl Zz rfl) rfl ?_; refine yq (p_nilRef rfl Zz rfl) rfl ?_; refine yq (p_fieldRef rfl wDia3_fld64_2 wDia3_siz62 rfl Zz rfl) rfl ?_; refine yq (p_loadB (y := .row _ _) rfl wDia3_agg62 Zz rfl rfl rfl rfl) rfl (zd1 rfl rfl rfl ?_); refine yq (p_bytesStr rfl wDia3_isl42 Go.Proofs.Try.underlying5 Go.Proofs.Try.underlying9 Zz) rfl (zd1 rfl rfl rfl ?_); refine dcons (r_mapPut rfl wDia3_mty62 rfl rfl rfl Zz rfl Zz Zz) ?_; refine dnil (by kernel_rfl) (f_seq (f_region (zm1 rfl rfl rfl (zm2 rfl rfl rfl (snil (f_ret ?_))))))
            have hn : (v, (Sp.nodeF m (t.take (2 ^ m)) (v + 1) (L, sn)).1, (Sp.nodeF m ((t.drop (2 ^ m)).take (t.length - 2 ^ m)) (v + 1) (Sp.nodeF m (t.take (2 ^ m)) (v + 1) (L, sn)).2).1) ∉ (Sp.nodeF m ((t.drop (2 ^ m)).take (t.length - 2 ^ m)) (v + 1) (Sp.nodeF m (t.take (2 ^ m)) (v + 1) (L, sn)).2).2.1 := (Sp.known_not _ _).1 (Option.not_isSome_iff_eq_none.1 (by rw [hc4]; decide))
            have e : Sp.nodeF (m + 1) t v (L, sn) = ((((Sp.nodeF m ((t.drop (2 ^ m)).take (t.length - 2 ^ m)) (v + 1) (Sp.nodeF m (t.take (2 ^ m)) (v + 1) (L, sn)).2).2.1 ++ [(v, (Sp.nodeF m (t.take (2 ^ m)) (v + 1) (L, sn)).1, (Sp.nodeF m ((t.drop (2 ^ m)).take (t.length - 2 ^ m)) (v + 1) (Sp.nodeF m (t.take (2 ^ m)) (v + 1) (L, sn)).2).1)]).length : Int) + 1, (Sp.nodeF m ((t.drop (2 ^ m)).take (t.length - 2 ^ m)) (v + 1) (Sp.nodeF m (t.take (2 ^ m)) (v + 1) (L, sn)).2).2.1 ++ [(v, (Sp.nodeF m (t.take (2 ^ m)) (v + 1) (L, sn)).1, (Sp.nodeF m ((t.drop (2 ^ m)).take (t.length - 2 ^ m)) (v + 1) (Sp.nodeF m (t.take (2 ^ m)) (v + 1) (L, sn)).2).1)], putL (Sp.nodeF m ((t.drop (2 ^ m)).take (t.length - 2 ^ m)) (v + 1) (Sp.nodeF m (t.take (2 ^ m)) (v + 1) (L, sn)).2).2.2 (strOfNums t) ((((Sp.nodeF m ((t.drop (2 ^ m)).take (t.length - 2 ^ m)) (v + 1) (Sp.nodeF m (t.take (2 ^ m)) (v + 1) (L, sn)).2).2.1 ++ [(v, (Sp.nodeF m (t.take (2 ^ m)) (v + 1) (L, sn)).1, (Sp.nodeF m ((t.drop (2 ^ m)).take (t.length - 2 ^ m)) (v + 1) (Sp.nodeF m (t.take (2 ^ m)) (v + 1) (L, sn)).2).1)]).length : Int) + 1)) := by rw [Sp.nodeF_step rfl rfl, if_neg (by rw [hc2]; decide), if_neg hc3, if_neg (by rw [hc4]; decide)]
            rw [hres] at e
            subst e
            refine endsB_ret (resB_eq (resB_tmp rfl rfl (Sees.of rfl)) ?_) ⟨rfl, (by rw [hln]; rfl), (by rw [hln]; rfl), (by rw [← Sp.known_put hn]; rfl), rfl, trivial⟩ rfl
            rfl
          · intro hc4; (try simp only [bs] at hc4); refine f_skip (f_nil ?_); show AWs _ _ _ _ _; refine f_seq ?_; refine f_draw wDia3_mix (by kernel_rfl) ?_; refine yq (p_move (y := .ref _ _ _) rfl Zz rfl) rfl ?_; refine yq (p_nilRef rfl Zz rfl) rfl ?_; refine yq (p_fieldRef rfl wDia3_fld64_2 wDia3_siz62 rfl Zz rfl) rfl ?_; refine yq (p_loadB (y := .row _ _) rfl wDia3_agg62 Zz rfl rfl rfl rfl) rfl (zd1 rfl rfl rfl ?_); refine yq (p_bytesStr rfl wDia3_isl42 Go.Proofs.Try.underlying5 Go.Proofs.Try.underlying9 Zz) rfl (zd1 rfl rfl rfl ?_); refine dcons (r_mapPut rfl wDia3_mty62 rfl rfl rfl Zz rfl Zz Zz) ?_; refine dnil (by kernel_rfl) (f_seq (f_region (zm1 rfl rfl rfl (zm2 rfl rfl rfl (snil (f_ret ?_))))))
            have e : Sp.nodeF (m + 1) t v (L, sn) = ((getL (Sp.knownOf (Sp.nodeF m ((t.drop (2 ^ m)).take (t.length - 2 ^ m)) (v + 1) (Sp.nodeF m (t.take (2 ^ m)) (v + 1) (L, sn)).2).2.1) (v, (Sp.nodeF m (t.take (2 ^ m)) (v + 1) (L, sn)).1, (Sp.nodeF m ((t.drop (2 ^ m)).take (t.length - 2 ^ m)) (v + 1) (Sp.nodeF m (t.take (2 ^ m)) (v + 1) (L, sn)).2).1)).getD 0, (Sp.nodeF m ((t.drop (2 ^ m)).take (t.length - 2 ^ m)) (v + 1) (Sp.nodeF m (t.take (2 ^ m)) (v + 1) (L, sn)).2).2.1, putL (Sp.nodeF m ((t.drop (2 ^ m)).take (t.length - 2 ^ m)) (v + 1) (Sp.nodeF m (t.take (2 ^ m)) (v + 1) (L, sn)).2).2.2 (strOfNums t) ((getL (Sp.knownOf (Sp.nodeF m ((t.drop (2 ^ m)).take (t.length - 2 ^ m)) (v + 1) (Sp.nodeF m (t.take (2 ^ m)) (v + 1) (L, sn)).2).2.1) (v, (Sp.nodeF m (t.take (2 ^ m)) (v + 1) (L, sn)).1, (Sp.nodeF m ((t.drop (2 ^ m)).take (t.length - 2 ^ m)) (v + 1) (Sp.nodeF m (t.take (2 ^ m)) (v + 1) (L, sn)).2).1)).getD 0)) := by rw [Sp.nodeF_step rfl rfl, if_neg (by rw [hc2]; decide), if_neg hc3, if_pos hc4]
            rw [hres] at e
            subst e
            refine endsB_ret (resB_eq (resB_tmp rfl rfl (Sees.of rfl)) ?_) ⟨rfl, rfl, rfl, rfl, rfl, trivial⟩ rfl
            rfl

theorem Built_spec (n : Nat) (t : List Bool) (hn : n ≤ 16) (ht : t.length = 2 ^ n) :
    Spec Go.Proofs.Try.prog 13 [.val (bytes (t.map Sp.b01))] (two (dia (Sp.diaBuilt n t).1 (Sp.diaBuilt n t).2.1) (fault (Sp.diaBuilt n t).2.2.1 (Sp.diaBuilt n t).2.2.2)) := by
  refine spec_of' Go.Proofs.Try.func13 rfl Go.Proofs.Try.ntmps13 rfl ?_
  refine f_seq (f_region ?_); refine scons (r_alloc (ob := 10002) rfl wDia3_zer29 rfl rfl rfl rfl rfl rfl) ?_; refine scons (r_alloc (ob := 10003) rfl wDia3_zer31 rfl rfl rfl rfl rfl rfl) (snil (f_seq (f_region ?_))); refine scons (r_makeMap (ob := 30002) vCho vInt rfl rfl rfl rfl rfl rfl) ?_; refine scons (r_makeMap (ob := 30003) Value.string vInt rfl rfl rfl rfl rfl rfl) ?_; refine zq (p_buildV rfl wDia3_plc64 wDia3_zer64 rfl rfl ⟨_, _, _, _, _, rfl, rfl, rfl, Zz, (oneAt_map rfl), ⟨_, _, _, _, _, rfl, rfl, rfl, Zz, (oneAt_map rfl), ⟨rfl, rfl⟩⟩⟩ rfl) rfl ?_; refine scons (r_box (ob := 30000) rfl Zz rfl rfl rfl rfl rfl rfl) ?_; refine zq (p_assign (y := .ref _ _ _) rfl Zz rfl) rfl (snil (f_seq ?_))
  refine f_le (GLe.le (g_adoptB (ob := 30000) (off := 0) (o1 := 30001) 80 3 24 dCho (0, 0, 0) rfl rfl rfl rfl rfl rfl rfl)) ?_ (by simp)
  have hp16 := Sp.pow16 hn
  have hnl := Sp.nodeF_len n (t.map Sp.b01) 1 ([], [])
  have hnb := Sp.node_built ht
  simp at hnl
  refine f_region ?_; refine zq (p_move (y := .ref _ _ _) rfl Zz rfl) rfl (zm1 rfl rfl rfl ?_); refine scons (r_callB rfl wDia3_isf29 (node_spec (n + 1) n (t.map Sp.b01) 1 [] [] _ (by omega) (by rw [List.length_map]; exact ht) hn (fun x hx => by obtain ⟨b, _, rfl⟩ := List.mem_map.1 hx; exact Sp.b01_le b) (by omega) (by simp; omega) rfl) ⟨_, _, rfl, Zz, ⟨_, _, rfl, Zz, ⟨_, _, rfl, Zz, rfl⟩⟩⟩ ⟨rfl, rfl, rfl, rfl, trivial⟩ rfl rfl rfl rfl rfl rfl) ?_; refine zm2 rfl rfl rfl (snil (f_seq (f_seq (f_region ?_)))); refine zq (p_move (y := .ref _ _ _) rfl Zz rfl) rfl ?_; refine zq (p_nilRef rfl Zz rfl) rfl ?_; refine zq (p_fieldRef rfl wDia3_fld64_0 wDia3_siz27 rfl Zz rfl) rfl ?_; refine zq (p_loadB (y := .row _ _) rfl wDia3_agg27 Zz rfl rfl rfl rfl) rfl ?_; refine zq (p_lenR rfl wDia3_isl27 Zz rfl) rfl ?_; refine zq (p_gtr rfl Zz Zz) rfl (snil (f_cond rfl ?_ ?_))
  · intro hc1; (try simp only [bs] at hc1); refine f_seq (f_region ?_); refine zq (p_build rfl wDia3_plc29 wDia3_zer29 (by decide) wDia3_zch29 rfl rfl) rfl ?_; refine zq (p_build rfl wDia3_plc31 wDia3_zer31 (by decide) wDia3_zch31 ⟨_, _, _, rfl, rfl, rfl, Zz, rfl⟩ rfl) rfl ?_; refine scons (r_storeS rfl wDia3_siz29 rfl rfl rfl Zz rfl Zz rfl rfl rfl rfl) ?_; refine scons (r_storeS rfl wDia3_siz31 rfl rfl rfl Zz rfl Zz rfl rfl rfl rfl) (snil (f_ret ?_))
    refine ends_ret (res_eq (res2 rfl (res_cell (by rfl) rfl rfl wDia3_agg29 wDia3_siz29 rfl rfl) (res_cell (by rfl) rfl rfl wDia3_agg31 wDia3_siz31 rfl rfl)) ?_)
    rw [Sp.diaBuilt, if_pos (by rw [← hnb.2]; omega)]
    all_goals rfl
  · intro hc1; (try simp only [bs] at hc1); refine f_skip (f_seq (f_region ?_)); refine zq (p_move (y := .ref _ _ _) rfl Zz rfl) rfl ?_; refine zq (p_nilRef rfl Zz rfl) rfl ?_; refine zq (p_fieldRef rfl wDia3_fld64_0 wDia3_siz27 rfl Zz rfl) rfl ?_; refine zq (p_loadB (y := .row _ _) rfl wDia3_agg27 Zz rfl rfl rfl rfl) rfl (zm1 rfl rfl rfl ?_); refine scons (LStep.pre (g_freeze (k := 24) (o1 := 30001) rfl rfl rfl rfl) (CStep.step (PStep.c (p_build rfl wDia3_plc29 wDia3_zer29 (by decide) wDia3_zch29 ⟨_, _, _, rfl, rfl, rfl, Zz, ⟨_, _, _, rfl, rfl, rfl, Zz, rfl⟩⟩ rfl)) rfl rfl rfl rfl)) ?_; refine zq (p_build rfl wDia3_plc31 wDia3_zer31 (by decide) wDia3_zch31 rfl rfl) rfl ?_; refine scons (r_storeS rfl wDia3_siz29 rfl rfl rfl Zz rfl Zz rfl rfl rfl rfl) ?_; refine scons (r_storeS rfl wDia3_siz31 rfl rfl rfl Zz rfl Zz rfl rfl rfl rfl) (snil (f_ret ?_))
    refine ends_ret (res_eq (res2 rfl (res_cell (by rfl) rfl rfl wDia3_agg29 wDia3_siz29 rfl rfl) (res_cell (by rfl) rfl rfl wDia3_agg31 wDia3_siz31 rfl rfl)) ?_)
    rw [Sp.diaBuilt, if_neg (by rw [← hnb.2]; omega), ← hnb.1, ← hnb.2]
    all_goals rfl

theorem DiaSame_spec (l : List Sp.Cho) (r : Int) (l' : List Sp.Cho) (r' : Int) :
    Spec Go.Proofs.Try.prog 19 [.val (dia l r), .val (dia l' r')] (D.bool (decide (l = l' ∧ r = r'))) := by
  refine spec_of' Go.Proofs.Try.func19 rfl Go.Proofs.Try.ntmps19 rfl ?_
  refine f_seq ?_
  refine f_wf (.tmp 0) rfl (fun hwf => ?_) (by simp)
  have hlen : l.length ≤ 140737488355328 := hwf.1.1
  clear hwf
  refine f_region ?_; refine scons (r_box (ob := 10002) rfl Zz rfl rfl rfl rfl rfl rfl) ?_; refine scons (r_box (ob := 10003) rfl Zz rfl rfl rfl rfl rfl rfl) (zm2 rfl rfl rfl (snil (f_seq (f_seq (f_region ?_))))); refine zq (p_fieldRef rfl wDia3_fld29_1 wDia3_siz3 rfl Zz rfl) rfl ?_; refine zq (p_loadB (y := .val _) rfl wDia3_agg3 Zz rfl rfl rfl rfl) rfl ?_; refine zq (p_fieldRef rfl wDia3_fld29_1 wDia3_siz3 rfl Zz rfl) rfl ?_; refine zq (p_loadB (y := .val _) rfl wDia3_agg3 Zz rfl rfl rfl rfl) rfl ?_; refine zq (p_neq rfl Zz Zz) rfl (zm1 rfl rfl rfl ?_); refine scons (CStep.guard rfl rfl rfl (fun hg0 => PStep.c (p_fieldRef rfl wDia3_fld29_0 wDia3_siz27 rfl Zz rfl)) rfl rfl rfl rfl rfl) ?_; refine scons (CStep.guard rfl rfl rfl (fun hg0 => PStep.c (p_loadB (y := .val _) rfl wDia3_agg27 (Sees.gv' rfl hg0) rfl rfl rfl rfl)) rfl rfl rfl rfl rfl) ?_; refine scons (CStep.guard rfl rfl rfl (fun hg0 => PStep.c (p_len rfl wDia3_isl27 (Sees.gv' rfl hg0))) rfl rfl rfl rfl rfl) ?_; refine scons (CStep.guard rfl rfl rfl (fun hg0 => PStep.c (p_fieldRef rfl wDia3_fld29_0 wDia3_siz27 rfl Zz rfl)) rfl rfl rfl rfl rfl) ?_; refine scons (CStep.guard rfl rfl rfl (fun hg0 => PStep.c (p_loadB (y := .val _) rfl wDia3_agg27 (Sees.gv' rfl hg0) rfl rfl rfl rfl)) rfl rfl rfl rfl rfl) ?_; refine scons (CStep.guard rfl rfl rfl (fun hg0 => PStep.c (p_len rfl wDia3_isl27 (Sees.gv' rfl hg0))) rfl rfl rfl rfl rfl) ?_; refine scons (CStep.guard rfl rfl rfl (fun hg0 => PStep.c (p_neq rfl (Sees.gv' rfl hg0) (Sees.gv' rfl hg0))) rfl rfl rfl rfl rfl) ?_; refine zq (p_or rfl Zz Zz (fun h => Sees.gv' rfl (beq_of_eq h))) rfl (snil (f_cond rfl ?_ ?_))
  · intro hc1; (try simp only [bs] at hc1); refine f_seq (f_region (zm2 rfl rfl rfl (snil (f_ret ?_))))
    refine ends_ret (res_eq (res1 rfl (res_tmp rfl (Sees.of rfl))) ?_)
    rw [decide_eq_false (fun h => by rw [h.1, h.2] at hc1; simp at hc1)]
  · intro hc1; (try simp only [bs] at hc1); refine f_skip (f_seq (f_seq (f_region (zm2 rfl rfl rfl (snil (f_block ?_))))))
    refine f_loop (α := Nat) (fun i => i ≤ l.length ∧ ∀ j, j < i → l.getD j (0, 0, 0) = l'.getD j (0, 0, 0)) (fun i => [(5, iv i), (2, .ref 10002 0 0), (3, .ref 10003 0 0), (10002, .box 0 (.ccons (.val (chos l)) (.ccons (iv r) .cnil))), (10003, .box 0 (.ccons (.val (chos l')) (.ccons (iv r') .cnil)))]) (fun i => l.length - i) 0 ?_ ?_ ?_
    · exact ⟨Nat.zero_le _, fun j hj => absurd hj (Nat.not_lt_zero _)⟩
    · exact le_ofL ⟨rfl, rfl, rfl, rfl, rfl, trivial⟩ rfl
    · rintro i ⟨hi, hp⟩
      refine f_seq (f_seq (f_region (zm1 rfl rfl rfl ?_))); refine zq (p_fieldRef rfl wDia3_fld29_0 wDia3_siz27 rfl Zz rfl) rfl ?_; refine zq (p_loadB (y := .val _) rfl wDia3_agg27 Zz rfl rfl rfl rfl) rfl ?_; refine zq (p_len rfl wDia3_isl27 Zz) rfl ?_; refine zq (p_lss rfl Zz Zz) rfl (snil (f_cond rfl ?_ ?_))
      · intro hc2; (try simp only [bs] at hc2); refine f_skip (f_seq (f_block (f_seq ?_))); refine f_draw wDia3_mix (by kernel_rfl) ?_; refine yq (p_fieldRef rfl wDia3_fld29_0 wDia3_siz27 rfl Zz rfl) rfl ?_; refine yq (p_loadB (y := .val _) rfl wDia3_agg27 Zz rfl rfl rfl rfl) rfl (zd1 rfl rfl rfl ?_); refine yq ((by first | exact p_indexN rfl wDia3_isl27 wDia3_siz80 Zz Zz (by omega) | exact p_index rfl wDia3_isl27 wDia3_siz80 Zz Zz (by omega) (by omega))) rfl ?_; refine yq (p_loadS rfl wDia3_agg80 wDia3_siz80 Zz ⟨rfl, fun h => R_len rfl h⟩) rfl ?_; refine yq (p_fieldRef rfl wDia3_fld29_0 wDia3_siz27 rfl Zz rfl) rfl ?_; refine yq (p_loadB (y := .val _) rfl wDia3_agg27 Zz rfl rfl rfl rfl) rfl (zd1 rfl rfl rfl ?_); refine yq ((by first | exact p_indexN rfl wDia3_isl27 wDia3_siz80 Zz Zz (by omega) | exact p_index rfl wDia3_isl27 wDia3_siz80 Zz Zz (by omega) (by omega))) rfl ?_; refine yq (p_loadS rfl wDia3_agg80 wDia3_siz80 Zz ⟨rfl, fun h => R_len rfl h⟩) rfl ?_; refine yq (p_neqS3 rfl wDia3_eq380 Zz Zz) rfl ?_; refine dnil (by kernel_rfl) (f_cond rfl ?_ ?_)
        · intro hc3; (try simp only [bs] at hc3); refine f_seq (f_region (zm2 rfl rfl rfl (snil (f_ret ?_))))
          refine ends_ret (res_eq (res1 rfl (res_tmp rfl (Sees.of rfl))) ?_)
          rw [decide_eq_false (fun h => by rw [h.1] at hc3; simp at hc3)]
        · intro hc3; (try simp only [bs] at hc3); refine f_skip (f_nil ?_); show AWs _ _ _ _ _; refine f_region (zm1 rfl rfl rfl ?_); refine zq (p_add rfl Zz Zz (by omega)) rfl (zm2 rfl rfl rfl (snil ?_))
          refine f_back ⟨i + 1, ?_, ?_, le_ofL ⟨rfl, rfl, rfl, rfl, rfl, trivial⟩ rfl⟩
          · refine ⟨by omega, fun j hj => ?_⟩
            by_cases e : j = i
            · rw [e]; exact Prod.ext hc3.1 (Prod.ext hc3.2.1 hc3.2.2)
            · exact hp j (by omega)
          · omega
      · intro hc2; (try simp only [bs] at hc2); refine f_exit ?_; show AWs _ _ _ _ _; refine f_seq (f_region (zm2 rfl rfl rfl (snil (f_ret ?_))))
        refine ends_ret (res_eq (res1 rfl (res_tmp rfl (Sees.of rfl))) ?_)
        rw [decide_eq_true ⟨Sp.eq_of_getD (by omega) (by omega) hp, hc1.1⟩]

theorem DiaNone_spec (l : List Sp.Cho) (r : Int) :
    Spec Go.Proofs.Try.prog 10 [.val (dia l r)] (D.bool (decide (r = 0) && decide ((l.length : Int) = 0))) := by
  refine spec_of' Go.Proofs.Try.func10 rfl Go.Proofs.Try.ntmps10 rfl ?_
  refine f_seq (f_region ?_); refine scons (r_box (ob := 10001) rfl Zz rfl rfl rfl rfl rfl rfl) (zm2 rfl rfl rfl (snil (f_seq (f_region ?_)))); refine zq (p_fieldRef rfl wDia3_fld29_1 wDia3_siz3 rfl Zz rfl) rfl ?_; refine zq (p_loadB (y := .val _) rfl wDia3_agg3 Zz rfl rfl rfl rfl) rfl ?_; refine zq (p_eql rfl Zz Zz) rfl (zm1 rfl rfl rfl ?_); refine scons (CStep.guard rfl rfl rfl (fun hg0 => PStep.c (p_fieldRef rfl wDia3_fld29_0 wDia3_siz27 rfl Zz rfl)) rfl rfl rfl rfl rfl) ?_; refine scons (CStep.guard rfl rfl rfl (fun hg0 => PStep.c (p_loadB (y := .val _) rfl wDia3_agg27 (Sees.gv' rfl hg0) rfl rfl rfl rfl)) rfl rfl rfl rfl rfl) ?_; refine scons (CStep.guard rfl rfl rfl (fun hg0 => PStep.c (p_len rfl wDia3_isl27 (Sees.gv' rfl hg0))) rfl rfl rfl rfl rfl) ?_; refine scons (CStep.guard rfl rfl rfl (fun hg0 => PStep.c (p_eql rfl (Sees.gv' rfl hg0) Zz)) rfl rfl rfl rfl rfl) ?_; refine zq (p_and rfl Zz (fun h => Sees.gv' rfl (beq_of_eq h)) Zz) rfl (zm2 rfl rfl rfl (snil (f_ret ?_)))
  refine ends_ret (res_eq (res1 rfl (res_tmp rfl (Sees.of rfl))) ?_)
  rfl

end Go.Um
