/- Walks of Go functions of this seat, each by its contract. No condition beyond what each theorem says. -/
import Derived.Test.YtfjafkocejoigaaGreatWTop1
import Derived.Test.YtfjafkocejoigaaGreatWChk
import Derived.Test.YtfjafkocejoigaaGreatTr5
import Derived.Test.YtfjafkocejoigaaGreatJd
import Derived.Test.YtfjafkocejoigaaGreatProg
import Derived.KernelRfl
import Derived.Test.YtfjafkocejoigaaGreatQ
set_option maxRecDepth 4000
namespace Go.Um
open Go Go.RowKit

theorem wTop6_agg104 : IsAgg Go.Proofs.Tryz.prog 104 false := by unfold IsAgg; kernel_rfl
theorem wTop6_agg22 : IsAgg Go.Proofs.Tryz.prog 22 false := by unfold IsAgg; kernel_rfl
theorem wTop6_agg23 : IsAgg Go.Proofs.Tryz.prog 23 false := by unfold IsAgg; kernel_rfl
theorem wTop6_agg25 : IsAgg Go.Proofs.Tryz.prog 25 true := by unfold IsAgg; kernel_rfl
theorem wTop6_agg29 : IsAgg Go.Proofs.Tryz.prog 29 true := by unfold IsAgg; kernel_rfl
theorem wTop6_agg3 : IsAgg Go.Proofs.Tryz.prog 3 false := by unfold IsAgg; kernel_rfl
theorem wTop6_agg4 : IsAgg Go.Proofs.Tryz.prog 4 false := by unfold IsAgg; kernel_rfl
theorem wTop6_agg54 : IsAgg Go.Proofs.Tryz.prog 54 true := by unfold IsAgg; kernel_rfl
theorem wTop6_byt22 : Bytes Go.Proofs.Tryz.prog 22 24 := by unfold Bytes; kernel_rfl
theorem wTop6_byt3 : Bytes Go.Proofs.Tryz.prog 3 8 := by unfold Bytes; kernel_rfl
theorem wTop6_byt4 : Bytes Go.Proofs.Tryz.prog 4 1 := by unfold Bytes; kernel_rfl
theorem wTop6_byt54 : Bytes Go.Proofs.Tryz.prog 54 120 := by unfold Bytes; kernel_rfl
theorem wTop6_fld106_1 : IsField Go.Proofs.Tryz.prog 106 1 1 22 := by unfold IsField; kernel_rfl
theorem wTop6_fld106_2 : IsField Go.Proofs.Tryz.prog 106 2 2 22 := by unfold IsField; kernel_rfl
theorem wTop6_fld25_1 : IsField Go.Proofs.Tryz.prog 25 1 1 23 := by unfold IsField; kernel_rfl
theorem wTop6_fld29_0 : IsField Go.Proofs.Tryz.prog 29 0 0 3 := by unfold IsField; kernel_rfl
theorem wTop6_fld54_0 : IsField Go.Proofs.Tryz.prog 54 0 0 3 := by unfold IsField; kernel_rfl
theorem wTop6_fld54_1 : IsField Go.Proofs.Tryz.prog 54 1 1 22 := by unfold IsField; kernel_rfl
theorem wTop6_isf109 : IsFn Go.Proofs.Tryz.prog 109 := by unfold IsFn; kernel_rfl
theorem wTop6_isf110 : IsFn Go.Proofs.Tryz.prog 110 := by unfold IsFn; kernel_rfl
theorem wTop6_isf146 : IsFn Go.Proofs.Tryz.prog 146 := by unfold IsFn; kernel_rfl
theorem wTop6_isf17 : IsFn Go.Proofs.Tryz.prog 17 := by unfold IsFn; kernel_rfl
theorem wTop6_isf43 : IsFn Go.Proofs.Tryz.prog 43 := by unfold IsFn; kernel_rfl
theorem wTop6_isf49 : IsFn Go.Proofs.Tryz.prog 49 := by unfold IsFn; kernel_rfl
theorem wTop6_isf51 : IsFn Go.Proofs.Tryz.prog 51 := by unfold IsFn; kernel_rfl
theorem wTop6_isf52 : IsFn Go.Proofs.Tryz.prog 52 := by unfold IsFn; kernel_rfl
theorem wTop6_isf68 : IsFn Go.Proofs.Tryz.prog 68 := by unfold IsFn; kernel_rfl
theorem wTop6_isf76 : IsFn Go.Proofs.Tryz.prog 76 := by unfold IsFn; kernel_rfl
theorem wTop6_isf90 : IsFn Go.Proofs.Tryz.prog 90 := by unfold IsFn; kernel_rfl
theorem wTop6_isl22 : IsSlice Go.Proofs.Tryz.prog 22 3 := by unfold IsSlice; kernel_rfl
theorem wTop6_isl23 : IsSlice Go.Proofs.Tryz.prog 23 22 := by unfold IsSlice; kernel_rfl
theorem wTop6_isl33 : IsSlice Go.Proofs.Tryz.prog 33 4 := by unfold IsSlice; kernel_rfl
theorem wTop6_isl34 : IsSlice Go.Proofs.Tryz.prog 34 54 := by unfold IsSlice; kernel_rfl
theorem wTop6_mix : (Go.Proofs.Tryz.prog).follows .mixedOrders = true := by kernel_rfl
theorem wTop6_mty104 : MapTy Go.Proofs.Tryz.prog 104 3 4 vInt di Value.bool D.bool false := mapTy_int (by kernel_rfl) Go.Proofs.Tryz.underlying3 (by unfold Zero; kernel_rfl) (fun a _ _ => val_bool a) (fun a _ _ v h => valr_bool a v h) (fun _ => rfl)
theorem wTop6_plc29 : Places Go.Proofs.Tryz.prog 29 [(0, 1), (1, 1)] := by unfold Places; kernel_rfl
theorem wTop6_plc54 : Places Go.Proofs.Tryz.prog 54 [(0, 1), (1, 1), (2, 1), (3, 6)] := by unfold Places; kernel_rfl
theorem wTop6_siz104 : Size Go.Proofs.Tryz.prog 104 1 := by unfold Size; kernel_rfl
theorem wTop6_siz22 : Size Go.Proofs.Tryz.prog 22 1 := by unfold Size; kernel_rfl
theorem wTop6_siz23 : Size Go.Proofs.Tryz.prog 23 1 := by unfold Size; kernel_rfl
theorem wTop6_siz25 : Size Go.Proofs.Tryz.prog 25 2 := by unfold Size; kernel_rfl
theorem wTop6_siz29 : Size Go.Proofs.Tryz.prog 29 2 := by unfold Size; kernel_rfl
theorem wTop6_siz3 : Size Go.Proofs.Tryz.prog 3 1 := by unfold Size; kernel_rfl
theorem wTop6_siz4 : Size Go.Proofs.Tryz.prog 4 1 := by unfold Size; kernel_rfl
theorem wTop6_siz54 : Size Go.Proofs.Tryz.prog 54 9 := by unfold Size; kernel_rfl
def wTop6_z29 : D := .cons (.int .i64 0) (.cons (.int .i64 0) (.nil))
theorem wTop6_zch29 : ∀ (ok : Nat → Prop) (w : World), R Go.Proofs.Tryz.prog wTop6_z29 ok w (Value.cells (.agg #[(.int .i64 0), (.int .i64 0)])).toList := fun _ _ => z_int (z_int (z_nil))
def wTop6_z54 : D := .cons (.int .i64 0) (.cons (ints []) (.cons (fras []) (.cons (.int .i64 0) (.cons (.int .i64 0) (.cons (.int .i64 0) (.cons (ints []) (.cons (.int .i64 0) (.cons (.int .i64 0) (.nil)))))))))
theorem wTop6_zch54 : ∀ (ok : Nat → Prop) (w : World), R Go.Proofs.Tryz.prog wTop6_z54 ok w (Value.cells (.agg #[(.int .i64 0), (.slice none 0 0), (.slice none 0 0), (.int .i64 0), (.int .i64 0), (.int .i64 0), (.slice none 0 0), (.int .i64 0), (.int .i64 0)])).toList := fun _ _ => z_int (z_list (z_list (z_int (z_int (z_int (z_list (z_int (z_int (z_nil)))))))))
theorem wTop6_zer104 : Zero Go.Proofs.Tryz.prog 104 (.map none) := by unfold Zero; kernel_rfl
theorem wTop6_zer22 : Zero Go.Proofs.Tryz.prog 22 (.slice none 0 0) := by unfold Zero; kernel_rfl
theorem wTop6_zer29 : Zero Go.Proofs.Tryz.prog 29 (.agg #[(.int .i64 0), (.int .i64 0)]) := by unfold Zero; kernel_rfl
theorem wTop6_zer3 : Zero Go.Proofs.Tryz.prog 3 (.int .i64 0) := by unfold Zero; kernel_rfl
theorem wTop6_zer4 : Zero Go.Proofs.Tryz.prog 4 (.bool false) := by unfold Zero; kernel_rfl
theorem wTop6_zer54 : Zero Go.Proofs.Tryz.prog 54 (.agg #[(.int .i64 0), (.slice none 0 0), (.slice none 0 0), (.int .i64 0), (.int .i64 0), (.int .i64 0), (.slice none 0 0), (.int .i64 0), (.int .i64 0)]) := by unfold Zero; kernel_rfl

theorem note_spec (l : List (List Int)) (vs : List Int) (um : Nat) (k : Int) (n : Nat) (hn : n ≤ 1000) (hk : 0 ≤ k ∧ k.toNat < l.length) (hok : Sp.Okc n (l.getD k.toNat [])) :
    SpecB Go.Proofs.Tryz.prog 146 [iv k, .ref 30000 0 0, .ref 30001 0 0] [(30000, .box 0 (.ccons (.val (intss l)) .cnil)), (30001, .box 0 (.ccons (.row 30002 um) .cnil)), (30002, .mp um vInt Value.bool (Sp.vmap vs))] (.tup .nil) [(30000, .box 0 (.ccons (.val (intss l)) .cnil)), (30001, .box 0 (.ccons (.row 30002 um) .cnil)), (30002, .mp um vInt Value.bool (Sp.vmap (vs ++ (l.getD k.toNat []).map Sp.av)))] := by
  refine specB_of' Go.Proofs.Tryz.func146 rfl Go.Proofs.Tryz.ntmps146 rfl rfl rfl ?_
  refine f_seq ?_
  have hcf := Sp.okc_fine hn hok
  refine f_region ?_; refine zq (p_loadB (y := .val _) rfl wTop6_agg23 Zz rfl rfl rfl rfl) rfl (zm1 rfl rfl rfl ?_); refine zq ((by first | exact p_indexN rfl wTop6_isl23 wTop6_siz22 Zz Zz (by omega) | exact p_index rfl wTop6_isl23 wTop6_siz22 Zz Zz (by omega) (by omega))) rfl ?_; refine zq (p_load rfl wTop6_agg22 Zz rfl) rfl ?_; refine zq (p_len rfl wTop6_isl22 Zz) rfl (zm1 rfl rfl rfl (snil (f_block ?_)))
  refine f_loop (α := Nat) (fun j => j ≤ (l.getD k.toNat []).length) (fun j => [(11, iv j), (9, .val (ints (l.getD k.toNat []))), (10, iv (l.getD k.toNat []).length), (2, .ref 30001 0 0), (30000, .box 0 (.ccons (.val (intss l)) .cnil)), (30001, .box 0 (.ccons (.row 30002 um) .cnil)), (30002, .mp um vInt Value.bool (Sp.vmap (vs ++ ((l.getD k.toNat []).take j).map Sp.av))), (29999, .clo 0 (.ccons (.ref 30000 0 0) (.ccons (.row 30000 0) (.ccons (.ref 30001 0 0) (.ccons (.row 30001 0) (.ccons (.ref 30002 um 0) (.ccons (.row 30002 um) .cnil)))))))]) (fun j => (l.getD k.toNat []).length - j) 0 ?_ ?_ ?_
  · exact Nat.zero_le _
  · exact le_ofL ⟨rfl, rfl, rfl, rfl, rfl, rfl, (by show _ = AV.mp _ _ _ (Sp.vmap (vs ++ [])); rw [List.append_nil]; rfl), rfl, trivial⟩ rfl
  · rintro j hj
    refine f_seq (f_region ?_); refine zq (p_lss rfl Zz Zz) rfl (snil (f_seq (f_cond rfl ?_ ?_)))
    · intro hc1; (try simp only [bs] at hc1); refine f_skip (f_seq (f_block (f_seq (f_region ?_)))); refine zq ((by first | exact p_indexN rfl wTop6_isl22 wTop6_siz3 Zz Zz (by omega) | exact p_index rfl wTop6_isl22 wTop6_siz3 Zz Zz (by omega) (by omega))) rfl ?_; refine zq (p_load rfl wTop6_agg3 Zz rfl) rfl (zm2 rfl rfl rfl (snil ?_)); refine f_draw wTop6_mix (by kernel_rfl) ?_; refine yq (p_loadB (y := .row _ _) rfl wTop6_agg104 Zz rfl rfl rfl rfl) rfl (zd1 rfl rfl rfl ?_); refine yc (c_call rfl wTop6_isf43 ⟨_, _, rfl, Zz, rfl, rfl⟩ (var_spec ((l.getD k.toNat []).getD j 0) (hcf.2 _ (Sp.getD_mem (l.getD k.toNat []) j 0 (by omega))))) rfl ?_; refine dcons (r_mapPut rfl wTop6_mty104 rfl rfl rfl Zz rfl Zz Zz) ?_; refine dnil (by kernel_rfl) (f_nil ?_); show AWs _ _ _ _ _; refine f_region ?_; refine zq (p_add rfl Zz Zz (by omega)) rfl (zm1 rfl rfl rfl (snil ?_))
      refine f_back ⟨j + 1, ?_, ?_, le_ofL ⟨rfl, rfl, rfl, rfl, rfl, rfl, (by rw [← Sp.vmap_app vs (l.getD k.toNat []) j (by omega)]; rfl), rfl, trivial⟩ rfl⟩
      · omega
      · omega
    · intro hc1; (try simp only [bs] at hc1); refine f_exit ?_; show AWs _ _ _ _ _
      refine endsB_end (resB_eq (resB_none rfl) ?_) ⟨rfl, rfl, rfl, (by rw [List.take_of_length_le (by omega)]; rfl), trivial⟩ rfl
      rfl

set_option maxHeartbeats 2000000 in
theorem causes_spec (l : List (List Int)) (i n : Nat) (hi : i < l.length) (hl : ∀ c ∈ l, Sp.Okc n c) (hn : n ≤ 24) (hll : l.length ≤ 4000) (hr : Sp.Rup (l.take i) (l.getD i [])) :
    Spec Go.Proofs.Tryz.prog 110 [.val (intss l), iv i] (ints (Sp.causes l i)) := by
  refine spec_of' Go.Proofs.Tryz.func110 rfl Go.Proofs.Tryz.ntmps110 rfl ?_
  refine f_seq ?_
  have hz := Sp.cz_of hi hl hn hll hr
  have hcf := Sp.okc_fine (by omega) hz.okc
  have hLn := hz.len
  have hlw := hz.rd.len
  have hbd := hz.bad
  have hgo := Sp.causes_go hz.bad.1
  have htl : (l.take i).length = i := by rw [List.length_take]; omega
  refine f_region ?_; refine scons (r_box (ob := 30000) rfl Zz rfl rfl rfl rfl rfl rfl) (zm5 rfl rfl rfl (snil (f_seq (f_region ?_)))); refine zq (p_loadB (y := .val _) rfl wTop6_agg23 Zz rfl rfl rfl rfl) rfl (zm1 rfl rfl rfl ?_); refine zq ((by first | exact p_indexN rfl wTop6_isl23 wTop6_siz22 Zz Zz (by omega) | exact p_index rfl wTop6_isl23 wTop6_siz22 Zz Zz (by omega) (by omega))) rfl ?_; refine zq (p_load rfl wTop6_agg22 Zz rfl) rfl ?_; refine zc (c_call rfl wTop6_isf76 ⟨_, _, rfl, Zz, rfl, rfl⟩ (Negated_spec (l.getD i []) hcf.2 hcf.1)) rfl (zm2 rfl rfl rfl (snil (f_seq (f_region ?_)))); refine zq (p_loadB (y := .val _) rfl wTop6_agg23 Zz rfl rfl rfl rfl) rfl (zm1 rfl rfl rfl ?_); refine zq (p_slice (l := 0) (h := i) rfl wTop6_isl23 wTop6_siz22 Zz rfl Zz (by omega) (by omega)) rfl (zm1 rfl rfl rfl ?_); refine zc (c_call rfl wTop6_isf90 ⟨_, _, rfl, Zz, rfl, ⟨_, _, rfl, Zz, rfl, rfl⟩⟩ (Assume_spec (l.take i) ((l.getD i []).map fun x => -x) hz.cl (by rw [List.length_map]; have := Sp.okc_len hz.okc; omega) hz.fl (by omega))) rfl ?_; refine zm1 rfl rfl rfl ?_; refine zq (p_extract rfl Zz rfl) rfl ?_; refine zq (p_extract rfl Zz rfl) rfl (zm2 rfl rfl rfl (zm2 rfl rfl rfl (snil (f_seq (f_seq ?_)))))
  rw [show Sp.on (l.take i) ((l.getD i []).map fun x => -x) (List.replicate ((l.getD i []).map fun x => -x).length (-1)) = (Sp.trOn (l.take i) (l.getD i [])) from rfl]
  refine f_region (zm1 rfl rfl rfl ?_); refine zq (p_lss rfl Zz Zz) rfl (snil (f_cond rfl ?_ ?_))
  · intro hc1; (try simp only [bs] at hc1)
    exfalso
    omega
  · intro hc1; (try simp only [bs] at hc1); refine f_skip (f_seq (f_region (zm1 rfl rfl rfl ?_))); refine scons (r_buildRow (f := di) (za := 0) (xs := [.tmp 28]) (by_ := 8) (ob := 30003) rfl rfl wTop6_isl22 wTop6_siz3 wTop6_zer3 rfl rfl (by decide) ⟨_, _, rfl, Zz, rfl, rfl, rfl⟩ rfl rfl rfl rfl rfl) (zm4 rfl rfl rfl (snil (f_seq (f_region ?_)))); refine scons (r_makeMap (ob := 30002) vInt Value.bool rfl rfl rfl rfl rfl rfl) ?_; refine scons (r_alloc (ob := 30001) rfl wTop6_zer104 rfl rfl rfl rfl rfl rfl) ?_; refine scons (r_storeM rfl wTop6_siz104 rfl rfl rfl Zz rfl rfl Zz rfl) (snil (f_seq (f_region ?_))); refine zq (p_makeFunc (l := [.tmp 2, .tmp 9]) rfl) rfl ?_; refine zq (p_assign (y := .clo _ _) rfl Zz rfl) rfl (snil (f_seq (f_region ?_))); refine zq (p_move (y := .clo _ _) rfl Zz rfl) rfl (zm1 rfl rfl rfl ?_); refine scons (r_callBC (ys := [iv (Sp.trOn (l.take i) (l.getD i [])).2.2]) (us := [.ref 30000 0 0, .ref 30001 0 0]) rfl wTop6_isf146 (note_spec l [] 0 (Sp.trOn (l.take i) (l.getD i [])).2.2 n (by omega) ⟨hbd.1, by omega⟩ (hl _ (Sp.getD_mem l _ [] (by omega)))) Zz ⟨_, _, rfl, Zz, rfl⟩ ⟨rfl, rfl, rfl, trivial⟩ rfl rfl rfl rfl rfl rfl) (snil (f_seq (f_seq (f_region (zm1 rfl rfl rfl ?_))))); refine zq (p_nilPtr rfl (Sees.dptr rfl)) rfl ?_; refine zq (p_fieldAddr rfl wTop6_fld106_1 wTop6_siz22 (by decide) Zz rfl rfl) rfl ?_; refine zq (p_load rfl wTop6_agg22 Zz rfl) rfl ?_; refine zq (p_len rfl wTop6_isl22 Zz) rfl ?_; refine zq (p_sub rfl Zz Zz (by omega)) rfl (zm2 rfl rfl rfl (snil (f_block ?_)))
    refine f_loop (α := Nat × Sp.Cq × Nat) (fun (k, q, u) => k ≤ (Sp.trOn (l.take i) (l.getD i [])).1.length ∧ Sp.causes l i = (Sp.czk l (Sp.trOn (l.take i) (l.getD i [])).1 (Sp.trOn (l.take i) (l.getD i [])).2.1 k q).1 ∧ q.1.length + k ≤ 1 + (Sp.trOn (l.take i) (l.getD i [])).1.length) (fun (k, q, u) => [(11, iv ((k : Int) - 1)), (8, .row 30003 u), (30003, .arr u 3 1 8 di 0 q.1), (6, .val (.ptr (.agg (.cons (intss (l.take i)) (.cons (ints (Sp.trOn (l.take i) (l.getD i [])).1) (.cons (ints (Sp.trOn (l.take i) (l.getD i [])).2.1) (.cons .any .nil))))))), (10, .clo 146 (.ccons (.ref 30000 0 0) (.ccons (.ref 30001 0 0) .cnil))), (9, .ref 30001 0 0), (30000, .box 0 (.ccons (.val (intss l)) .cnil)), (30001, .box 0 (.ccons (.row 30002 0) .cnil)), (30002, .mp 0 vInt Value.bool (Sp.vmap q.2)), (4, .emp)]) (fun (k, q, u) => k) ((Sp.trOn (l.take i) (l.getD i [])).1.length, ([(Sp.trOn (l.take i) (l.getD i [])).2.2], (l.getD (Sp.trOn (l.take i) (l.getD i [])).2.2.toNat []).map Sp.av), 0) ?_ ?_ ?_
    · exact ⟨Nat.le_refl _, hgo, Nat.le_refl _⟩
    · exact le_ofL ⟨rfl, rfl, rfl, rfl, rfl, rfl, rfl, rfl, rfl, rfl, trivial⟩ rfl
    · rintro ⟨k, q, u⟩ ⟨hk, hq, hql⟩
      have hk : k ≤ (Sp.trOn (l.take i) (l.getD i [])).1.length := hk
      refine f_seq (f_seq (f_region (zm1 rfl rfl rfl ?_))); refine zq (p_geq rfl Zz Zz) rfl (snil (f_cond rfl ?_ ?_))
      · intro hc2; (try simp only [bs] at hc2)
        have he : ((k : Int) - 1).toNat = k - 1 := by omega
        refine f_skip (f_seq (f_block (f_seq (f_region (zm1 rfl rfl rfl ?_))))); refine zq (p_nilPtr rfl (Sees.dptr rfl)) rfl ?_; refine zq (p_fieldAddr rfl wTop6_fld106_2 wTop6_siz22 (by decide) Zz rfl rfl) rfl ?_; refine zq (p_load rfl wTop6_agg22 Zz rfl) rfl (zm1 rfl rfl rfl ?_); refine zq ((by first | exact p_indexN rfl wTop6_isl22 wTop6_siz3 Zz Zz (by omega) | exact p_index rfl wTop6_isl22 wTop6_siz3 Zz Zz (by omega) (by omega))) rfl ?_; refine zq (p_load rfl wTop6_agg3 Zz rfl) rfl (zm2 rfl rfl rfl (snil (f_seq ?_)))
        have hlg := Sp.rd_good hz.tk hz.okc hz.rd (i := ((k : Int) - 1).toNat) (by omega)
        refine f_draw wTop6_mix (by kernel_rfl) (zd1 rfl rfl rfl ?_); refine yq (p_geq rfl Zz Zz) rfl (zd1 rfl rfl rfl ?_); refine dcons (CStep.guard rfl rfl rfl (fun hg0 => PStep.c (p_loadB (y := .row _ _) rfl wTop6_agg104 Zz rfl rfl rfl rfl)) rfl rfl rfl rfl rfl) ?_; refine dcons (CStep.guard rfl rfl rfl (fun hg0 => PStep.c (p_move (y := .val _) rfl Zz rfl)) rfl rfl rfl rfl rfl) ?_; refine dcons (CStep.guard rfl rfl rfl (fun hg0 => PStep.c (p_nilPtr rfl (Sees.gd rfl hg0))) rfl rfl rfl rfl rfl) ?_; refine dcons (CStep.guard rfl rfl rfl (fun hg0 => PStep.c (p_fieldAddr rfl wTop6_fld106_1 wTop6_siz22 (by decide) (Sees.gv' rfl hg0) rfl rfl)) rfl rfl rfl rfl rfl) ?_; refine dcons (CStep.guard rfl rfl rfl (fun hg0 => PStep.c (p_load rfl wTop6_agg22 (Sees.gv' rfl hg0) rfl)) rfl rfl rfl rfl rfl) ?_; refine dcons (CStep.guard rfl rfl rfl (fun hg0 => PStep.c (p_move (y := .val _) rfl Zz rfl)) rfl rfl rfl rfl rfl) ?_; refine dcons (CStep.guard rfl rfl rfl (fun hg0 => by have hp0 := hg0; (try simp only [bs] at hp0); exact PStep.c ((by first | exact p_indexN rfl wTop6_isl22 wTop6_siz3 (Sees.gv' rfl hg0) (Sees.gv' rfl hg0) (by omega) | exact p_index rfl wTop6_isl22 wTop6_siz3 (Sees.gv' rfl hg0) (Sees.gv' rfl hg0) (by omega) (by omega)))) rfl rfl rfl rfl rfl) ?_; refine dcons (CStep.guard rfl rfl rfl (fun hg0 => PStep.c (p_load rfl wTop6_agg3 (Sees.gv' rfl hg0) rfl)) rfl rfl rfl rfl rfl) ?_; refine dcons (CStep.guard rfl rfl rfl (fun hg0 => by have hp0 := hg0; (try simp only [bs] at hp0); exact c_call rfl wTop6_isf43 ⟨_, _, rfl, (Sees.gv' rfl hg0), rfl, rfl⟩ (var_spec ((Sp.trOn (l.take i) (l.getD i [])).1.getD ((k : Int) - 1).toNat 0) (by omega))) rfl rfl rfl rfl rfl) ?_; refine dcons (CStep.guard rfl rfl rfl (fun hg0 => PStep.c (p_look rfl wTop6_mty104 (Sees.gv' rfl hg0) rfl (Sees.gv' rfl hg0))) rfl rfl rfl rfl rfl) ?_; refine yq (p_and rfl Zz (fun h => Sees.gv' rfl (beq_of_eq h)) Zz) rfl ?_; refine dnil (by kernel_rfl) (f_cond rfl ?_ ?_)
        · intro hc3; (try simp only [bs] at hc3)
          simp only [Sp.vmap_get, decide_eq_true_eq] at hc3
          refine f_seq (f_region (zm3 rfl rfl rfl (zm1 rfl rfl rfl ?_))); refine zc (c_buildSlice (f := di) (za := 0) (xs := [.tmp 67]) rfl rfl wTop6_isl22 wTop6_siz3 wTop6_zer3 rfl rfl ⟨_, _, rfl, Zz, rfl, rfl, rfl⟩) rfl ?_; refine scons (r_appendR (ob := 30003) rfl wTop6_isl22 wTop6_siz3 wTop6_byt3 wTop6_zer3 rfl rfl Zz rfl Zz (by simp only [List.length_cons, List.length_nil]; omega) (by simp only [List.length_cons, List.length_nil]; omega) rfl rfl rfl rfl rfl) ?_; refine zm4 rfl rfl rfl (snil ?_)
          have hwr := hz.rd.rng (k - 1) (by refine Classical.byContradiction fun hn2 => ?_; have := hz.rd.dec (k - 1) (by omega); rw [he] at hc3; omega) (by omega)
          rw [← he, htl] at hwr
          refine f_region ?_; refine zq (p_move (y := .clo _ _) rfl Zz rfl) rfl (zm1 rfl rfl rfl ?_); refine scons (r_callBC (ys := [iv ((Sp.trOn (l.take i) (l.getD i [])).2.1.getD ((k : Int) - 1).toNat 0)]) (us := [.ref 30000 0 0, .ref 30001 0 0]) rfl wTop6_isf146 (note_spec l q.2 0 ((Sp.trOn (l.take i) (l.getD i [])).2.1.getD ((k : Int) - 1).toNat 0) n (by omega) ⟨hwr.1, by omega⟩ (hl _ (Sp.getD_mem l _ [] (by omega)))) Zz ⟨_, _, rfl, Zz, rfl⟩ ⟨rfl, rfl, rfl, trivial⟩ rfl rfl rfl rfl rfl rfl) (snil (f_nil ?_)); show AWs _ _ _ _ _; refine f_region (zm1 rfl rfl rfl ?_); refine zq (p_sub rfl Zz Zz (by omega)) rfl (zm2 rfl rfl rfl (snil ?_))
          have hng : ¬ ((Sp.trOn (l.take i) (l.getD i [])).2.1.getD (k - 1) 0 < 0 ∨ Sp.av ((Sp.trOn (l.take i) (l.getD i [])).1.getD (k - 1) 0) ∉ q.2) := by
            rw [← he]
            intro h
            rcases h with h | h
            · omega
            · exact h hc3.2
          have hgo2 : (Sp.czS l (Sp.trOn (l.take i) (l.getD i [])).1 (Sp.trOn (l.take i) (l.getD i [])).2.1 (k - 1) q) = (q.1 ++ [((Sp.trOn (l.take i) (l.getD i [])).2.1.getD ((k : Int) - 1).toNat 0)], q.2 ++ (l.getD ((Sp.trOn (l.take i) (l.getD i [])).2.1.getD ((k : Int) - 1).toNat 0).toNat []).map Sp.av) := by rw [Sp.czS_go hng, he]
          refine f_back ⟨(k - 1, (Sp.czS l (Sp.trOn (l.take i) (l.getD i [])).1 (Sp.trOn (l.take i) (l.getD i [])).2.1 (k - 1) q), u + 1), ?_, ?_, le_ofL ⟨(by show AV.val (.int .i64 ((k : Int) - 1 - 1)) = _; exact congrArg (fun q => AV.val (.int .i64 q)) (by omega)), rfl, (by rw [hgo2]; rfl), rfl, rfl, rfl, rfl, rfl, (by rw [hgo2]; rfl), rfl, trivial⟩ rfl⟩
          · exact ⟨by omega, by rw [hq, Sp.czk_down (by omega)], by rw [hgo2]; show (q.1 ++ [_]).length + (k - 1) ≤ _; rw [List.length_append, List.length_singleton]; omega⟩
          · show k - 1 < k
            omega
        · intro hc3; (try simp only [bs] at hc3)
          simp only [Sp.vmap_get] at hc3
          refine f_skip (f_nil ?_); show AWs _ _ _ _ _; refine f_region (zm1 rfl rfl rfl ?_); refine zq (p_sub rfl Zz Zz (by omega)) rfl (zm2 rfl rfl rfl (snil ?_))
          have hsk : (Sp.czS l (Sp.trOn (l.take i) (l.getD i [])).1 (Sp.trOn (l.take i) (l.getD i [])).2.1 (k - 1) q) = q := Sp.czS_skip (by rw [← he]; rcases hc3 with h | h; exact .inl (by omega); first | exact .inr h | exact .inr (of_decide_eq_false h))
          refine f_back ⟨(k - 1, q, u), ?_, ?_, le_ofL ⟨(by show AV.val (.int .i64 ((k : Int) - 1 - 1)) = _; exact congrArg (fun q => AV.val (.int .i64 q)) (by omega)), rfl, rfl, rfl, rfl, rfl, rfl, rfl, rfl, rfl, trivial⟩ rfl⟩
          · exact ⟨by omega, by rw [hq, Sp.czk_down (by omega), hsk], by omega⟩
          · show k - 1 < k
            omega
      · intro hc2; (try simp only [bs] at hc2); refine f_exit ?_; show AWs _ _ _ _ _; refine f_seq (f_region (zm3 rfl rfl rfl (zm4 rfl rfl rfl (snil (f_ret ?_)))))
        refine ends_ret (res_eq (res1 rfl (res_row rfl rfl rfl)) ?_)
        obtain rfl : k = 0 := by omega
        rw [hq]
        rfl

theorem causesI_spec (l : List (List Int)) (j : Int) (n : Nat) (hj : 0 ≤ j ∧ j < (l.length : Int)) (hl : ∀ c ∈ l, Sp.Okc n c) (hn : n ≤ 24) (hll : l.length ≤ 4000) (hr : Sp.Rup (l.take j.toNat) (l.getD j.toNat [])) : Spec Go.Proofs.Tryz.prog 110 [.val (intss l), iv j] (ints (Sp.causes l j.toNat)) := by
  obtain ⟨i, rfl⟩ : ∃ i : Nat, j = i := ⟨j.toNat, by omega⟩
  rw [Int.toNat_natCast] at hr ⊢
  exact causes_spec l i n (by omega) hl hn hll hr
theorem req1_spec (l : List Int) :
    Spec Go.Proofs.Tryz.prog 109 [.val (ints l)] (D.bool (decide (l = []))) := by
  refine spec_of' Go.Proofs.Tryz.func109 rfl Go.Proofs.Tryz.ntmps109 rfl ?_
  refine f_seq (f_region (zm2 rfl rfl rfl (snil (f_seq (f_region (zm1 rfl rfl rfl ?_)))))); refine zq (p_len rfl wTop6_isl22 Zz) rfl ?_; refine zq (p_eql rfl Zz Zz) rfl (zm2 rfl rfl rfl (snil (f_ret ?_)))
  refine ends_ret (res_eq (res1 rfl (res_tmp rfl (Sees.of rfl))) ?_)
  simp

set_option maxHeartbeats 2000000 in
theorem req_spec (n : Nat) (ls st : List (List Int)) (h : Sp.Taken n ls st) (h0 : [] ∈ ls ++ st) (hn : n ≤ 24) :
    Spec Go.Proofs.Tryz.prog 68 [.val (cnf n ls), .val (stps (lrn st))] (.tup (.cons (intss (ls ++ st)) (.cons (bools (Sp.flags ls (ls ++ st))) (.cons (fault 0 0) .nil)))) := by
  refine spec_of' Go.Proofs.Tryz.func68 rfl Go.Proofs.Tryz.ntmps68 rfl ?_
  refine f_seq ?_
  have hll := (Sp.check_ok h.ck).2.1
  have hsl := Sp.lrn_len st
  have hst := h.ll
  have hk := Sp.tk_of h h0
  have hf1 := hk.fst
  have hkl := hk.ll
  have hal : (ls ++ st).length = ls.length + st.length := List.length_append
  have hfz := (Sp.flags_zero ls (ls ++ st)).resolve_right (by omega)
  refine f_region ?_; refine scons (r_box (ob := 10002) rfl Zz rfl rfl rfl rfl rfl rfl) (zm5 rfl rfl rfl (zm5 rfl rfl rfl ?_)); refine scons (r_alloc (ob := 10006) rfl wTop6_zer29 rfl rfl rfl rfl rfl rfl) (snil (f_seq (f_region ?_))); refine zq (p_loadBS rfl wTop6_agg25 wTop6_siz25 Zz rfl rfl rfl) rfl (zm1 rfl rfl rfl ?_); refine zc (c_call rfl wTop6_isf17 ⟨_, _, rfl, Zz, rfl, ⟨_, _, rfl, Zz, rfl, rfl⟩⟩ (Why_spec n ls st h h0)) rfl (zm1 rfl rfl rfl ?_); refine zq (p_extract rfl Zz rfl) rfl ?_; refine zq (p_extract rfl Zz rfl) rfl ?_; refine scons (r_alloc (ob := 10008) rfl wTop6_zer29 rfl rfl rfl rfl rfl rfl) (zm2 rfl rfl rfl ?_); refine scons (r_storeS rfl wTop6_siz29 rfl rfl rfl Zz rfl Zz rfl rfl rfl rfl) (snil (f_seq (f_seq (f_region ?_)))); refine zq (p_fieldRef rfl wTop6_fld29_0 wTop6_siz3 rfl Zz rfl) rfl ?_; refine zq (p_loadB (y := .val _) rfl wTop6_agg3 Zz rfl rfl rfl rfl) rfl ?_; refine zq (p_neq rfl Zz Zz) rfl (snil (f_cond rfl ?_ ?_))
  · intro hc1; (try simp only [bs] at hc1)
    exact absurd trivial hc1
  · intro hc1; (try simp only [bs] at hc1); refine f_skip (f_seq (f_seq (f_region (zm1 rfl rfl rfl ?_)))); refine zq (p_neq rfl Zz Zz) rfl (snil (f_cond rfl ?_ ?_))
    · intro hc2; (try simp only [bs] at hc2)
      exact absurd trivial hc2
    · intro hc2; (try simp only [bs] at hc2); refine f_skip (f_seq (f_region ?_)); refine zq (p_fieldRef rfl wTop6_fld25_1 wTop6_siz23 rfl Zz rfl) rfl ?_; refine zq (p_loadB (y := .val _) rfl wTop6_agg23 Zz rfl rfl rfl rfl) rfl ?_; refine scons (r_callS (q := false) (ob := 30001) [] rfl wTop6_isf49 (cloneII_spec ls (by omega)) (sa_cons (sh_of Zz rfl) (sa_nil)) (.inl rfl) rfl rfl rfl rfl rfl) (zm4 rfl rfl rfl (snil (f_seq (f_seq (f_region (zm1 rfl rfl rfl ?_)))))); refine zq (p_len rfl wTop6_isl34 Zz) rfl (zm1 rfl rfl rfl (snil (f_block ?_)))
      refine f_loop (α := Nat × Nat) (fun (i, u) => i ≤ st.length) (fun (i, u) => [(36, iv i), (9, .row 30001 u), (30001, .arr u 22 1 24 ints [] (ls ++ st.take i)), (2, .ref 10002 0 0), (4, .emp), (5, .emp), (6, .ref 10006 0 0), (34, .val (stps (lrn st))), (35, iv (lrn st).length), (10002, .box 0 (.ccons (iv n) (.ccons (.val (intss ls)) .cnil))), (10006, .box 0 (.ccons (iv 0) (.ccons (iv 0) .cnil)))]) (fun (i, u) => st.length - i) (0, 0) ?_ ?_ ?_
      · exact Nat.zero_le _
      · exact le_ofL ⟨rfl, rfl, (by show _ = AV.arr _ _ _ _ _ _ (ls ++ []); rw [List.append_nil]; rfl), rfl, rfl, rfl, rfl, rfl, rfl, rfl, rfl, trivial⟩ rfl
      · rintro ⟨i, u⟩ hi
        have hi : i ≤ st.length := hi
        refine f_seq (f_region ?_); refine zq (p_lss rfl Zz Zz) rfl (snil (f_seq (f_cond rfl ?_ ?_)))
        · intro hc3; (try simp only [bs] at hc3); refine f_skip (f_seq (f_block (f_seq (f_region ?_)))); refine zq ((by first | exact p_indexN rfl wTop6_isl34 wTop6_siz54 Zz Zz (by omega) | exact p_index rfl wTop6_isl34 wTop6_siz54 Zz Zz (by omega) (by omega))) rfl ?_; refine zq (p_loadS rfl wTop6_agg54 wTop6_siz54 Zz ⟨rfl, fun h => R_len rfl h⟩) rfl ?_; refine scons (r_alloc (ob := 10011) rfl wTop6_zer54 rfl rfl rfl rfl rfl rfl) ?_; refine scons (r_storeS rfl wTop6_siz54 rfl rfl rfl Zz rfl Zz rfl rfl rfl rfl) (snil (f_seq ?_))
          rw [Sp.lrn_at (by omega)]
          refine f_region ?_; refine zq (p_fieldRef rfl wTop6_fld54_0 wTop6_siz3 rfl Zz rfl) rfl ?_; refine zq (p_loadB (y := .val _) rfl wTop6_agg3 Zz rfl rfl rfl rfl) rfl ?_; refine zq (p_eql rfl Zz Zz) rfl (snil (f_cond rfl ?_ ?_))
          · intro hc4; (try simp only [bs] at hc4); refine f_region (zm3 rfl rfl rfl ?_); refine zq (p_fieldRef rfl wTop6_fld54_1 wTop6_siz22 rfl Zz rfl) rfl ?_; refine zq (p_loadB (y := .val _) rfl wTop6_agg22 Zz rfl rfl rfl rfl) rfl ?_; refine zc (c_buildSlice (f := ints) (za := []) (xs := [.tmp 45]) rfl rfl wTop6_isl23 wTop6_siz22 wTop6_zer22 rfl rfl ⟨_, _, rfl, Zz, rfl, rfl, rfl⟩) rfl ?_; refine scons (r_appendR (ob := 30001) rfl wTop6_isl23 wTop6_siz22 wTop6_byt22 wTop6_zer22 rfl rfl Zz rfl Zz (by simp only [List.length_append, List.length_take, List.length_cons, List.length_nil]; omega) (by simp only [List.length_append, List.length_take, List.length_cons, List.length_nil]; omega) rfl rfl rfl rfl rfl) ?_; refine zm4 rfl rfl rfl (snil (f_nil ?_)); show AWs _ _ _ _ _; refine f_region ?_; refine zq (p_add rfl Zz Zz (by omega)) rfl (zm1 rfl rfl rfl (snil ?_))
            refine f_back ⟨(i + 1, u + 1), ?_, ?_, le_ofL ⟨rfl, rfl, (by rw [Sp.take_getD st i [] (by omega), ← List.append_assoc]; rfl), rfl, rfl, rfl, rfl, rfl, rfl, rfl, rfl, trivial⟩ rfl⟩
            · show i + 1 ≤ _
              omega
            · show _ - (i + 1) < _ - i
              omega
          · intro hc4; (try simp only [bs] at hc4)
            exact absurd trivial hc4
        · intro hc3; (try simp only [bs] at hc3)
          have hti : st.take i = st := List.take_of_length_le (by omega)
          have hfi : 0 ≤ Sp.idx (fun x : List Int => decide (x = [])) (ls ++ st.take i) ∧ (Sp.idx (fun x : List Int => decide (x = [])) (ls ++ st.take i)).toNat < (ls ++ st.take i).length := by rw [hti]; exact hk.fst
          have hlr : (List.replicate (ls ++ st.take i).length false).length = (ls ++ st.take i).length := List.length_replicate
          have hlt : (ls ++ st.take i).length ≤ 3300 := by rw [hti]; exact hkl
          refine f_exit ?_; show AWs _ _ _ _ _; refine f_seq ?_
          refine f_le (GLe.le (g_freeze (k := 9) (o1 := 30001) rfl rfl rfl rfl)) ?_ (by simp)
          refine f_region (zm1 rfl rfl rfl ?_); refine zq (p_len rfl wTop6_isl23 Zz) rfl ?_; refine scons (r_make (f := D.bool) (z := false) (ob := 30004) rfl wTop6_isl33 wTop6_siz4 wTop6_byt4 wTop6_zer4 rfl rfl rfl (fun _ _ => rfl) Zz (by omega) (by omega) rfl rfl rfl rfl rfl) (zm4 rfl rfl rfl (snil (f_seq (f_region (zm1 rfl rfl rfl ?_))))); refine zc (c_callS (q := false) rfl wTop6_isf52 (indexII_spec (ls ++ st.take i) (fun x => decide (x = [])) (fun _ => True) (fun _ _ => trivial)) (sa_cons (sh_of Zz rfl) (sa_cons (sh_clo Zz wTop6_isf109 (sl_nil) (fun _ => rfl) (fun _ => rfl) (fun y => req1_spec y.1)) (sa_nil))) rfl) rfl (zm2 rfl rfl rfl (snil (f_seq (f_region (zm3 rfl rfl rfl (zm1 rfl rfl rfl ?_)))))); refine zq ((by first | exact p_indexR rfl wTop6_isl33 wTop6_siz4 Zz rfl Zz (by omega) | exact p_indexRZ rfl wTop6_isl33 wTop6_siz4 Zz rfl Zz (by omega) (by omega))) rfl ?_; refine scons (r_storeE rfl wTop6_siz4 rfl rfl rfl Zz rfl (by omega) Zz rfl) (snil (f_seq (f_seq (f_region (zm1 rfl rfl rfl (zm2 rfl rfl rfl (snil (f_block ?_))))))))
          refine f_loop (α := Int × List Bool) (fun (j, f) => (-1 ≤ j ∧ j < ((ls ++ st).length : Int)) ∧ f.length = (ls ++ st).length ∧ (Sp.flags ls (ls ++ st)) = Sp.rqk (ls ++ st) ls.length (j + 1 - ls.length).toNat f) (fun (j, f) => [(14, iv j), (9, .val (intss (ls ++ st))), (12, .row 30004 0), (30004, .arr 0 4 1 1 D.bool false f), (2, .ref 10002 0 0), (4, .emp), (5, .emp), (6, .ref 10006 0 0), (10002, .box 0 (.ccons (iv n) (.ccons (.val (intss ls)) .cnil))), (10006, .box 0 (.ccons (iv 0) (.ccons (iv 0) .cnil)))]) (fun (j, f) => (j + 1).toNat) (Sp.firstE (ls ++ st), ((List.replicate (ls ++ st).length false).set (Sp.firstE (ls ++ st)).toNat true)) ?_ ?_ ?_
          · exact ⟨⟨by omega, by show Sp.firstE (ls ++ st) < ((ls ++ st).length : Int); omega⟩, by rw [List.length_set, List.length_replicate], hfz⟩
          · exact le_ofL ⟨(by show AV.val (di (Sp.idx (fun x : List Int => decide (x = [])) (ls ++ st.take i))) = _; rw [hti]; rfl), (by show AV.val (intss (ls ++ st.take i)) = _; rw [hti]), rfl, (by show AV.arr _ _ _ _ _ _ ((List.replicate (ls ++ st.take i).length false).set (Sp.idx (fun x : List Int => decide (x = [])) (ls ++ st.take i)).toNat true) = _; rw [hti]; rfl), rfl, rfl, rfl, rfl, rfl, rfl, trivial⟩ rfl
          · rintro ⟨j, f⟩ ⟨hj, hfl, hF⟩
            refine f_seq (f_seq (f_region (zm1 rfl rfl rfl ?_))); refine zq (p_fieldRef rfl wTop6_fld25_1 wTop6_siz23 rfl Zz rfl) rfl ?_; refine zq (p_loadB (y := .val _) rfl wTop6_agg23 Zz rfl rfl rfl rfl) rfl ?_; refine zq (p_len rfl wTop6_isl23 Zz) rfl ?_; refine zq (p_geq rfl Zz Zz) rfl (snil (f_cond rfl ?_ ?_))
            · intro hc5; (try simp only [bs] at hc5); refine f_skip (f_seq (f_block (f_seq (f_region (zm3 rfl rfl rfl (zm1 rfl rfl rfl ?_)))))); refine zq ((by first | exact p_indexR rfl wTop6_isl33 wTop6_siz4 Zz rfl Zz (by omega) | exact p_indexRZ rfl wTop6_isl33 wTop6_siz4 Zz rfl Zz (by omega) (by omega))) rfl ?_; refine zq (p_loadE rfl wTop6_agg4 Zz rfl (by omega) (fun _ => rfl)) rfl (snil (f_cond rfl ?_ ?_))
              · intro hc6; (try simp only [bs] at hc6); refine f_seq ?_
                have hrr := hk.rup j.toNat (by omega) (by omega)
                have hcr := (Sp.causes_ok (by omega) hk.okc hrr).1
                have hcl := Sp.causes_len (Sp.cz_of (by omega) hk.okc hn (by omega) hrr)
                refine f_region (zm1 rfl rfl rfl (zm1 rfl rfl rfl ?_)); refine zc (c_call rfl wTop6_isf110 ⟨_, _, rfl, Zz, rfl, ⟨_, _, rfl, Zz, rfl, rfl⟩⟩ (causesI_spec (ls ++ st) j n (by omega) hk.okc hn (by omega) hrr)) rfl ?_; refine zq (p_len rfl wTop6_isl22 Zz) rfl (zm1 rfl rfl rfl (snil (f_block ?_)))
                refine f_loop (α := Nat) (fun p => p ≤ (Sp.causes (ls ++ st) j.toNat).length) (fun p => [(73, iv p), (71, .val (ints (Sp.causes (ls ++ st) j.toNat))), (72, iv (Sp.causes (ls ++ st) j.toNat).length), (14, iv j), (9, .val (intss (ls ++ st))), (12, .row 30004 0), (30004, .arr 0 4 1 1 D.bool false (Sp.setAll ((Sp.causes (ls ++ st) j.toNat).take p) f)), (2, .ref 10002 0 0), (4, .emp), (5, .emp), (6, .ref 10006 0 0), (10002, .box 0 (.ccons (iv n) (.ccons (.val (intss ls)) .cnil))), (10006, .box 0 (.ccons (iv 0) (.ccons (iv 0) .cnil)))]) (fun p => (Sp.causes (ls ++ st) j.toNat).length - p) 0 ?_ ?_ ?_
                · exact Nat.zero_le _
                · exact le_ofL ⟨rfl, rfl, rfl, rfl, rfl, rfl, rfl, rfl, rfl, rfl, rfl, rfl, rfl, trivial⟩ rfl
                · rintro p hp
                  have hsl2 := Sp.setAll_len ((Sp.causes (ls ++ st) j.toNat).take p) f
                  refine f_seq (f_region ?_); refine zq (p_lss rfl Zz Zz) rfl (snil (f_seq (f_cond rfl ?_ ?_)))
                  · intro hc7; (try simp only [bs] at hc7); refine f_skip (f_seq (f_block (f_seq ?_)))
                    have hcp := hcr _ (Sp.getD_mem (Sp.causes (ls ++ st) j.toNat) p 0 (by omega))
                    refine f_region ?_; refine zq ((by first | exact p_indexN rfl wTop6_isl22 wTop6_siz3 Zz Zz (by omega) | exact p_index rfl wTop6_isl22 wTop6_siz3 Zz Zz (by omega) (by omega))) rfl ?_; refine zq (p_load rfl wTop6_agg3 Zz rfl) rfl (zm2 rfl rfl rfl (snil (f_region (zm3 rfl rfl rfl (zm1 rfl rfl rfl ?_))))); refine zq ((by first | exact p_indexR rfl wTop6_isl33 wTop6_siz4 Zz rfl Zz (by omega) | exact p_indexRZ rfl wTop6_isl33 wTop6_siz4 Zz rfl Zz (by omega) (by omega))) rfl ?_; refine scons (r_storeE rfl wTop6_siz4 rfl rfl rfl Zz rfl (by omega) Zz rfl) (snil (f_nil ?_)); show AWs _ _ _ _ _; refine f_region ?_; refine zq (p_add rfl Zz Zz (by omega)) rfl (zm1 rfl rfl rfl (snil ?_))
                    refine f_back ⟨p + 1, ?_, ?_, le_ofL ⟨rfl, rfl, rfl, rfl, rfl, rfl, (by rw [Sp.setAll_step (by omega)]; rfl), rfl, rfl, rfl, rfl, rfl, rfl, trivial⟩ rfl⟩
                    · omega
                    · omega
                  · intro hc7; (try simp only [bs] at hc7); refine f_exit ?_; show AWs _ _ _ _ _; refine f_nil ?_; show AWs _ _ _ _ _; refine f_region (zm1 rfl rfl rfl ?_); refine zq (p_sub rfl Zz Zz (by omega)) rfl (zm2 rfl rfl rfl (snil ?_))
                    refine f_back ⟨(j - 1, Sp.setAll (Sp.causes (ls ++ st) j.toNat) f), ?_, ?_, le_ofL ⟨rfl, rfl, rfl, (by show AV.arr _ _ _ _ _ _ (Sp.setAll ((Sp.causes (ls ++ st) j.toNat).take p) f) = _; rw [List.take_of_length_le (by omega)]), rfl, rfl, rfl, rfl, rfl, rfl, trivial⟩ rfl⟩
                    · exact ⟨⟨by omega, by omega⟩, by rw [Sp.setAll_len]; exact hfl, by rw [hF, Sp.rqk_down (by omega), Sp.rqS_yes hc6]⟩
                    · show (j - 1 + 1).toNat < (j + 1).toNat
                      omega
              · intro hc6; (try simp only [bs] at hc6); refine f_skip (f_nil ?_); show AWs _ _ _ _ _; refine f_region (zm1 rfl rfl rfl ?_); refine zq (p_sub rfl Zz Zz (by omega)) rfl (zm2 rfl rfl rfl (snil ?_))
                refine f_back ⟨(j - 1, f), ?_, ?_, le_ofL ⟨rfl, rfl, rfl, rfl, rfl, rfl, rfl, rfl, rfl, rfl, trivial⟩ rfl⟩
                · exact ⟨⟨by omega, by omega⟩, hfl, by rw [hF, Sp.rqk_down (by omega), Sp.rqS_no hc6]⟩
                · show (j - 1 + 1).toNat < (j + 1).toNat
                  omega
            · intro hc5; (try simp only [bs] at hc5); refine f_exit ?_; show AWs _ _ _ _ _; refine f_seq ?_
              refine f_le (GLe.le (g_freeze (k := 12) (o1 := 30004) rfl rfl rfl rfl)) ?_ (by simp)
              refine f_region (zm1 rfl rfl rfl (zm1 rfl rfl rfl ?_)); refine zq (p_build rfl wTop6_plc29 wTop6_zer29 (by decide) wTop6_zch29 rfl rfl) rfl (zm2 rfl rfl rfl (zm2 rfl rfl rfl ?_)); refine scons (r_storeS rfl wTop6_siz29 rfl rfl rfl Zz rfl Zz rfl rfl rfl rfl) (snil (f_ret ?_))
              refine ends_ret (res_eq (res3 rfl (res_tmp rfl (Sees.of rfl)) (res_tmp rfl (Sees.of rfl)) (res_cell (by rfl) rfl rfl wTop6_agg29 wTop6_siz29 rfl rfl)) ?_)
              rw [show (j + 1 - ls.length).toNat = 0 by omega] at hF
              rw [hF]
              rfl

theorem trimDo_spec (n : Nat) (ls st : List (List Int)) (h : Sp.Taken n ls st) (h0 : [] ∈ ls ++ st) (hn : n ≤ 24) :
    Spec Go.Proofs.Tryz.prog 29 [.val (cnf n ls), .val (stps (lrn st))] (two (stps (lrn (Sp.trimOf ls st))) (fault 0 0)) := by
  refine spec_of' Go.Proofs.Tryz.func29 rfl Go.Proofs.Tryz.ntmps29 rfl ?_
  refine f_seq ?_
  have hll := (Sp.check_ok h.ck).2.1
  have hst := h.ll
  have hk := Sp.tk_of h h0
  have hkl := hk.ll
  have hal : (ls ++ st).length = ls.length + st.length := List.length_append
  have hFl : (Sp.flags ls (ls ++ st)).length = (ls ++ st).length := by unfold Sp.flags; rw [Sp.rqk_len, List.length_set, List.length_replicate]
  refine f_region ?_; refine scons (r_box (ob := 10002) rfl Zz rfl rfl rfl rfl rfl rfl) (zm5 rfl rfl rfl ?_); refine scons (r_alloc (ob := 10005) rfl wTop6_zer29 rfl rfl rfl rfl rfl rfl) (snil (f_seq (f_region ?_))); refine zq (p_loadBS rfl wTop6_agg25 wTop6_siz25 Zz rfl rfl rfl) rfl (zm1 rfl rfl rfl ?_); refine zc (c_call rfl wTop6_isf68 ⟨_, _, rfl, Zz, rfl, ⟨_, _, rfl, Zz, rfl, rfl⟩⟩ (req_spec n ls st h h0 hn)) rfl (zm1 rfl rfl rfl ?_); refine zq (p_extract rfl Zz rfl) rfl ?_; refine zq (p_extract rfl Zz rfl) rfl ?_; refine zq (p_extract rfl Zz rfl) rfl ?_; refine scons (r_alloc (ob := 10008) rfl wTop6_zer29 rfl rfl rfl rfl rfl rfl) (zm2 rfl rfl rfl (zm2 rfl rfl rfl ?_)); refine scons (r_storeS rfl wTop6_siz29 rfl rfl rfl Zz rfl Zz rfl rfl rfl rfl) (snil (f_seq (f_seq (f_region ?_)))); refine zq (p_fieldRef rfl wTop6_fld29_0 wTop6_siz3 rfl Zz rfl) rfl ?_; refine zq (p_loadB (y := .val _) rfl wTop6_agg3 Zz rfl rfl rfl rfl) rfl ?_; refine zq (p_neq rfl Zz Zz) rfl (snil (f_cond rfl ?_ ?_))
  · intro hc1; (try simp only [bs] at hc1)
    exact absurd trivial hc1
  · intro hc1; (try simp only [bs] at hc1); refine f_skip (f_seq (f_region (zm5 rfl rfl rfl (snil (f_seq (f_seq (f_region ?_))))))); refine zq (p_fieldRef rfl wTop6_fld25_1 wTop6_siz23 rfl Zz rfl) rfl ?_; refine zq (p_loadB (y := .val _) rfl wTop6_agg23 Zz rfl rfl rfl rfl) rfl ?_; refine zq (p_len rfl wTop6_isl23 Zz) rfl (zm2 rfl rfl rfl (snil (f_block ?_)))
    refine f_loop (α := Nat × Nat) (fun (i, u) => ls.length ≤ i ∧ i ≤ (ls ++ st).length) (fun (i, u) => [(10, iv i), (6, .val (intss (ls ++ st))), (7, .val (bools (Sp.flags ls (ls ++ st)))), (9, .row 30003 u), (30003, .arr u 54 9 120 dStp (0, []) (lrn (Sp.kept (ls ++ st) (Sp.flags ls (ls ++ st)) ls.length i))), (4, .emp), (5, .ref 10005 0 0), (10005, .box 0 (.ccons (iv 0) (.ccons (iv 0) .cnil)))]) (fun (i, u) => (ls ++ st).length - i) (ls.length, 0) ?_ ?_ ?_
    · exact ⟨Nat.le_refl _, by omega⟩
    · exact Le.trans (GLe.le (g_adopt (ob := 30003) (k := 9) 54 9 120 dStp (0, []) rfl rfl rfl rfl)) (le_ofL ⟨rfl, rfl, rfl, rfl, (by rw [Sp.kept_low]; rfl), rfl, rfl, rfl, trivial⟩ rfl)
    · rintro ⟨i, u⟩ ⟨hi, hi2⟩
      have hi : ls.length ≤ i := hi
      have hi2 : i ≤ (ls ++ st).length := hi2
      refine f_seq (f_seq (f_region (zm1 rfl rfl rfl (zm1 rfl rfl rfl ?_)))); refine zq (p_len rfl wTop6_isl23 Zz) rfl ?_; refine zq (p_lss rfl Zz Zz) rfl (snil (f_cond rfl ?_ ?_))
      · intro hc2; (try simp only [bs] at hc2); refine f_skip (f_seq (f_block (f_seq (f_region (zm1 rfl rfl rfl (zm1 rfl rfl rfl ?_)))))); refine zq ((by first | exact p_indexN rfl wTop6_isl33 wTop6_siz4 Zz Zz (by omega) | exact p_index rfl wTop6_isl33 wTop6_siz4 Zz Zz (by omega) (by omega))) rfl ?_; refine zq (p_load rfl wTop6_agg4 Zz rfl) rfl (snil (f_cond rfl ?_ ?_))
        · intro hc3; (try simp only [bs] at hc3)
          have hof := Sp.okc_fine (by omega : n ≤ 1000) (hk.okc _ (Sp.getD_mem (ls ++ st) i [] (by omega)))
          have hkn := Sp.kept_len (ls ++ st) (Sp.flags ls (ls ++ st)) ls.length (i - ls.length)
          rw [Nat.add_sub_cancel' hi] at hkn
          refine f_region (zm3 rfl rfl rfl (zm1 rfl rfl rfl (zm1 rfl rfl rfl ?_))); refine zq ((by first | exact p_indexN rfl wTop6_isl23 wTop6_siz22 Zz Zz (by omega) | exact p_index rfl wTop6_isl23 wTop6_siz22 Zz Zz (by omega) (by omega))) rfl ?_; refine zq (p_load rfl wTop6_agg22 Zz rfl) rfl ?_; refine zc (c_call rfl wTop6_isf51 ⟨_, _, rfl, Zz, rfl, rfl⟩ (sorted_spec ((ls ++ st).getD i []) hof.1 hof.2)) rfl ?_; refine zq (p_build rfl wTop6_plc54 wTop6_zer54 (by decide) wTop6_zch54 ⟨_, _, _, rfl, rfl, rfl, Zz, ⟨_, _, _, rfl, rfl, rfl, Zz, rfl⟩⟩ rfl) rfl ?_; refine zc (c_buildSlice (f := dStp) (za := (0, [])) (xs := [.tmp 41]) rfl rfl wTop6_isl34 wTop6_siz54 wTop6_zer54 rfl rfl ⟨(_, _), _, rfl, Zz, rfl, rfl, rfl⟩) rfl ?_; refine scons (r_appendR (ob := 30003) rfl wTop6_isl34 wTop6_siz54 wTop6_byt54 wTop6_zer54 rfl rfl Zz rfl Zz (by simp only [Sp.lrn_len, List.length_cons, List.length_nil]; omega) (by simp only [Sp.lrn_len, List.length_cons, List.length_nil]; omega) rfl rfl rfl rfl rfl) ?_; refine zm4 rfl rfl rfl (snil (f_nil ?_)); show AWs _ _ _ _ _; refine f_region (zm1 rfl rfl rfl ?_); refine zq (p_add rfl Zz Zz (by omega)) rfl (zm2 rfl rfl rfl (snil ?_))
          refine f_back ⟨(i + 1, u + 1), ?_, ?_, le_ofL ⟨rfl, rfl, rfl, rfl, (by rw [Sp.kept_yes hi hc3, Sp.lrn_snoc]; rfl), rfl, rfl, rfl, trivial⟩ rfl⟩
          · exact ⟨by omega, by omega⟩
          · show _ - (i + 1) < _ - i
            omega
        · intro hc3; (try simp only [bs] at hc3); refine f_skip (f_nil ?_); show AWs _ _ _ _ _; refine f_region (zm1 rfl rfl rfl ?_); refine zq (p_add rfl Zz Zz (by omega)) rfl (zm2 rfl rfl rfl (snil ?_))
          refine f_back ⟨(i + 1, u), ?_, ?_, le_ofL ⟨rfl, rfl, rfl, rfl, (by rw [Sp.kept_no hc3]; rfl), rfl, rfl, rfl, trivial⟩ rfl⟩
          · exact ⟨by omega, by omega⟩
          · show _ - (i + 1) < _ - i
            omega
      · intro hc2; (try simp only [bs] at hc2); refine f_exit ?_; show AWs _ _ _ _ _; refine f_seq (f_region (zm3 rfl rfl rfl ?_)); refine zq (p_build rfl wTop6_plc29 wTop6_zer29 (by decide) wTop6_zch29 rfl rfl) rfl (zm4 rfl rfl rfl ?_); refine scons (r_storeS rfl wTop6_siz29 rfl rfl rfl Zz rfl Zz rfl rfl rfl rfl) (snil (f_ret ?_))
        refine ends_ret (res_eq (res2 rfl (res_row rfl rfl rfl) (res_cell (by rfl) rfl rfl wTop6_agg29 wTop6_siz29 rfl rfl)) ?_)
        obtain rfl : i = (ls ++ st).length := by omega
        rfl

end Go.Um
