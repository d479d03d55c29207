/- Walks of Go functions of this seat, each by its contract. No condition beyond what each theorem says. -/
import Derived.Test.YtfjafkocejoigaaGreatWTop1
import Derived.Test.YtfjafkocejoigaaGreatWChk
import Derived.Test.YtfjafkocejoigaaGreatWBet2
import Derived.Test.YtfjafkocejoigaaGreatTr1
import Derived.Test.YtfjafkocejoigaaGreatTr3
import Derived.Test.YtfjafkocejoigaaGreatTro
import Derived.Test.YtfjafkocejoigaaGreatProg
import Derived.KernelRfl
import Derived.Test.YtfjafkocejoigaaGreatQ
set_option maxRecDepth 4000
namespace Go.Um
open Go Go.RowKit

theorem wTop3_agg138 : IsAgg Go.Proofs.Tryz.prog 138 true := by unfold IsAgg; kernel_rfl
theorem wTop3_agg22 : IsAgg Go.Proofs.Tryz.prog 22 false := by unfold IsAgg; kernel_rfl
theorem wTop3_agg23 : IsAgg Go.Proofs.Tryz.prog 23 false := by unfold IsAgg; kernel_rfl
theorem wTop3_agg25 : IsAgg Go.Proofs.Tryz.prog 25 true := by unfold IsAgg; kernel_rfl
theorem wTop3_agg29 : IsAgg Go.Proofs.Tryz.prog 29 true := by unfold IsAgg; kernel_rfl
theorem wTop3_agg3 : IsAgg Go.Proofs.Tryz.prog 3 false := by unfold IsAgg; kernel_rfl
theorem wTop3_agg54 : IsAgg Go.Proofs.Tryz.prog 54 true := by unfold IsAgg; kernel_rfl
theorem wTop3_agg64 : IsAgg Go.Proofs.Tryz.prog 64 false := by unfold IsAgg; kernel_rfl
theorem wTop3_byt138 : Bytes Go.Proofs.Tryz.prog 138 24 := by unfold Bytes; kernel_rfl
theorem wTop3_byt22 : Bytes Go.Proofs.Tryz.prog 22 24 := by unfold Bytes; kernel_rfl
theorem wTop3_byt3 : Bytes Go.Proofs.Tryz.prog 3 8 := by unfold Bytes; kernel_rfl
theorem wTop3_fld106_1 : IsField Go.Proofs.Tryz.prog 106 1 1 22 := by unfold IsField; kernel_rfl
theorem wTop3_fld106_2 : IsField Go.Proofs.Tryz.prog 106 2 2 22 := by unfold IsField; kernel_rfl
theorem wTop3_fld124_0 : IsField Go.Proofs.Tryz.prog 124 0 0 23 := by unfold IsField; kernel_rfl
theorem wTop3_fld124_1 : IsField Go.Proofs.Tryz.prog 124 1 1 22 := by unfold IsField; kernel_rfl
theorem wTop3_fld124_2 : IsField Go.Proofs.Tryz.prog 124 2 2 3 := by unfold IsField; kernel_rfl
theorem wTop3_fld124_3 : IsField Go.Proofs.Tryz.prog 124 3 3 64 := by unfold IsField; kernel_rfl
theorem wTop3_fld138_0 : IsField Go.Proofs.Tryz.prog 138 0 0 3 := by unfold IsField; kernel_rfl
theorem wTop3_fld138_1 : IsField Go.Proofs.Tryz.prog 138 1 1 3 := by unfold IsField; kernel_rfl
theorem wTop3_fld25_1 : IsField Go.Proofs.Tryz.prog 25 1 1 23 := by unfold IsField; kernel_rfl
theorem wTop3_fld29_0 : IsField Go.Proofs.Tryz.prog 29 0 0 3 := by unfold IsField; kernel_rfl
theorem wTop3_fld54_0 : IsField Go.Proofs.Tryz.prog 54 0 0 3 := by unfold IsField; kernel_rfl
theorem wTop3_fld54_1 : IsField Go.Proofs.Tryz.prog 54 1 1 22 := by unfold IsField; kernel_rfl
theorem wTop3_isf101 : IsFn Go.Proofs.Tryz.prog 101 := by unfold IsFn; kernel_rfl
theorem wTop3_isf102 : IsFn Go.Proofs.Tryz.prog 102 := by unfold IsFn; kernel_rfl
theorem wTop3_isf17 : IsFn Go.Proofs.Tryz.prog 17 := by unfold IsFn; kernel_rfl
theorem wTop3_isf35 : IsFn Go.Proofs.Tryz.prog 35 := by unfold IsFn; kernel_rfl
theorem wTop3_isf43 : IsFn Go.Proofs.Tryz.prog 43 := by unfold IsFn; kernel_rfl
theorem wTop3_isf49 : IsFn Go.Proofs.Tryz.prog 49 := by unfold IsFn; kernel_rfl
theorem wTop3_isf51 : IsFn Go.Proofs.Tryz.prog 51 := by unfold IsFn; kernel_rfl
theorem wTop3_isf56 : IsFn Go.Proofs.Tryz.prog 56 := by unfold IsFn; kernel_rfl
theorem wTop3_isf61 : IsFn Go.Proofs.Tryz.prog 61 := by unfold IsFn; kernel_rfl
theorem wTop3_isf62 : IsFn Go.Proofs.Tryz.prog 62 := by unfold IsFn; kernel_rfl
theorem wTop3_isf75 : IsFn Go.Proofs.Tryz.prog 75 := by unfold IsFn; kernel_rfl
theorem wTop3_isf76 : IsFn Go.Proofs.Tryz.prog 76 := by unfold IsFn; kernel_rfl
theorem wTop3_isf81 : IsFn Go.Proofs.Tryz.prog 81 := by unfold IsFn; kernel_rfl
theorem wTop3_isf83 : IsFn Go.Proofs.Tryz.prog 83 := by unfold IsFn; kernel_rfl
theorem wTop3_isf90 : IsFn Go.Proofs.Tryz.prog 90 := by unfold IsFn; kernel_rfl
theorem wTop3_isl22 : IsSlice Go.Proofs.Tryz.prog 22 3 := by unfold IsSlice; kernel_rfl
theorem wTop3_isl23 : IsSlice Go.Proofs.Tryz.prog 23 22 := by unfold IsSlice; kernel_rfl
theorem wTop3_isl34 : IsSlice Go.Proofs.Tryz.prog 34 54 := by unfold IsSlice; kernel_rfl
theorem wTop3_isl64 : IsSlice Go.Proofs.Tryz.prog 64 138 := by unfold IsSlice; kernel_rfl
theorem wTop3_mix : (Go.Proofs.Tryz.prog).follows .mixedOrders = true := by kernel_rfl
theorem wTop3_plc124 : Places Go.Proofs.Tryz.prog 124 [(0, 1), (1, 1), (2, 1), (3, 1)] := by unfold Places; kernel_rfl
theorem wTop3_plc138 : Places Go.Proofs.Tryz.prog 138 [(0, 1), (1, 1), (2, 1)] := by unfold Places; kernel_rfl
theorem wTop3_plc29 : Places Go.Proofs.Tryz.prog 29 [(0, 1), (1, 1)] := by unfold Places; kernel_rfl
theorem wTop3_siz138 : Size Go.Proofs.Tryz.prog 138 3 := by unfold Size; kernel_rfl
theorem wTop3_siz22 : Size Go.Proofs.Tryz.prog 22 1 := by unfold Size; kernel_rfl
theorem wTop3_siz23 : Size Go.Proofs.Tryz.prog 23 1 := by unfold Size; kernel_rfl
theorem wTop3_siz25 : Size Go.Proofs.Tryz.prog 25 2 := by unfold Size; kernel_rfl
theorem wTop3_siz29 : Size Go.Proofs.Tryz.prog 29 2 := by unfold Size; kernel_rfl
theorem wTop3_siz3 : Size Go.Proofs.Tryz.prog 3 1 := by unfold Size; kernel_rfl
theorem wTop3_siz54 : Size Go.Proofs.Tryz.prog 54 9 := by unfold Size; kernel_rfl
theorem wTop3_siz64 : Size Go.Proofs.Tryz.prog 64 1 := by unfold Size; kernel_rfl
def wTop3_z138 : D := .cons (.int .i64 0) (.cons (.int .i64 0) (.cons (.int .i64 0) (.nil)))
theorem wTop3_zch138 : ∀ (ok : Nat → Prop) (w : World), R Go.Proofs.Tryz.prog wTop3_z138 ok w (Value.cells (.agg #[(.int .i64 0), (.int .i64 0), (.int .i64 0)])).toList := fun _ _ => z_int (z_int (z_int (z_nil)))
def wTop3_z29 : D := .cons (.int .i64 0) (.cons (.int .i64 0) (.nil))
theorem wTop3_zch29 : ∀ (ok : Nat → Prop) (w : World), R Go.Proofs.Tryz.prog wTop3_z29 ok w (Value.cells (.agg #[(.int .i64 0), (.int .i64 0)])).toList := fun _ _ => z_int (z_int (z_nil))
theorem wTop3_zer124 : Zero Go.Proofs.Tryz.prog 124 (.agg #[(.slice none 0 0), (.slice none 0 0), (.int .i64 0), (.slice none 0 0)]) := by unfold Zero; kernel_rfl
theorem wTop3_zer138 : Zero Go.Proofs.Tryz.prog 138 (.agg #[(.int .i64 0), (.int .i64 0), (.int .i64 0)]) := by unfold Zero; kernel_rfl
theorem wTop3_zer22 : Zero Go.Proofs.Tryz.prog 22 (.slice none 0 0) := by unfold Zero; kernel_rfl
theorem wTop3_zer29 : Zero Go.Proofs.Tryz.prog 29 (.agg #[(.int .i64 0), (.int .i64 0)]) := by unfold Zero; kernel_rfl
theorem wTop3_zer3 : Zero Go.Proofs.Tryz.prog 3 (.int .i64 0) := by unfold Zero; kernel_rfl
theorem wTop3_zer54 : Zero Go.Proofs.Tryz.prog 54 (.agg #[(.int .i64 0), (.slice none 0 0), (.slice none 0 0), (.int .i64 0), (.int .i64 0), (.int .i64 0), (.slice none 0 0), (.int .i64 0), (.int .i64 0)]) := by unfold Zero; kernel_rfl

theorem AssumeF_spec (cl : List (List Int)) (l : List Int) (hC : ∀ c ∈ cl, Sp.Cl c ∧ Sp.Fine c) (hl : l.length ≤ 100000) (hr : cl.flatten.length ≤ 100000) (hlc : cl.length ≤ 100000) :
    SpecF Go.Proofs.Tryz.prog 90 [.val (intss cl), .val (ints l)] (.tup (.cons (.ptr (.agg (.cons .any (.cons (ints (Sp.on cl l (List.replicate l.length (-1))).1) (.cons (ints (Sp.on cl l (List.replicate l.length (-1))).2.1) (.cons .any .nil)))))) (.cons (di (Sp.on cl l (List.replicate l.length (-1))).2.2) .nil))) := by
  refine specF_of' Go.Proofs.Tryz.func90 rfl Go.Proofs.Tryz.ntmps90 rfl ?_
  refine f_seq ?_
  refine f_wf (.tmp 1) rfl (fun hwf => ?_) (by simp)
  have hlen : l.length ≤ 140737488355328 := hwf.1
  clear hwf
  refine f_region ?_; refine zq (p_assign (y := .any) rfl Zz rfl) rfl (zm2 rfl rfl rfl (snil (f_seq ?_)))
  refine f_le (le_dead (k := 30010) 0 rfl rfl rfl) ?_ (by simp)
  refine f_le (le_dead (k := 30011) 0 rfl rfl rfl) ?_ (by simp)
  refine f_le (le_dead (k := 30012) 0 rfl rfl rfl) ?_ (by simp)
  refine f_le (le_dead (k := 30013) 0 rfl rfl rfl) ?_ (by simp)
  refine f_region (zm1 rfl rfl rfl ?_); refine scons (r_callV rfl wTop3_isf35 (New_spec 0 0 0 0 cl) ⟨_, _, rfl, Zz, rfl⟩ ⟨rfl, rfl, rfl, rfl, trivial⟩ rfl (⟨⟨_, rfl, Nat.lt_succ_self _⟩, ⟨_, rfl, Nat.lt_succ_self _⟩, ⟨_, rfl, Nat.lt_succ_self _⟩, ⟨_, rfl, Nat.lt_succ_self _⟩, trivial⟩) rfl rfl rfl rfl rfl rfl rfl) ?_; refine zq (p_assign (y := .ref _ _ _) rfl Zz rfl) rfl (snil (f_seq (f_seq (f_region (zm1 rfl rfl rfl ?_))))); refine zq (p_len rfl wTop3_isl22 Zz) rfl (zm1 rfl rfl rfl (snil (f_block ?_)))
  refine f_loop (α := Nat) (fun i => i ≤ l.length) (fun i => [(13, iv i), (6, .ref 30010 1 0), (30010, .box 1 (.ccons (.val (intss cl)) (.ccons (.row 30011 (1 + i)) (.ccons (.row 30012 (1 + i)) (.ccons (.row 30013 1) .cnil))))), (30011, .arr (1 + i) 3 1 8 di 0 (l.take i)), (30012, .arr (1 + i) 3 1 8 di 0 (List.replicate i (-1))), (30013, .mp 1 vInt Value.bool (Sp.vmap (l.take i))), (5, iv 0), (11, .val (ints l)), (12, iv l.length)]) (fun i => l.length - i) 0 ?_ ?_ ?_
  · exact Nat.zero_le _
  · exact le_ofL ⟨rfl, rfl, rfl, rfl, rfl, rfl, rfl, rfl, rfl, trivial⟩ rfl
  · rintro i hi
    refine f_seq (f_region ?_); refine zq (p_lss rfl Zz Zz) rfl (snil (f_seq (f_cond rfl ?_ ?_)))
    · intro hc1; (try simp only [bs] at hc1); refine f_skip (f_seq (f_block (f_seq (f_region ?_)))); refine zq ((by first | exact p_indexN rfl wTop3_isl22 wTop3_siz3 Zz Zz (by omega) | exact p_index rfl wTop3_isl22 wTop3_siz3 Zz Zz (by omega) (by omega))) rfl ?_; refine zq (p_load rfl wTop3_agg3 Zz rfl) rfl (zm2 rfl rfl rfl (snil (f_region ?_))); refine zq (p_move (y := .ref _ _ _) rfl Zz rfl) rfl (zm1 rfl rfl rfl ?_); refine scons (r_callB rfl wTop3_isf83 (Add_spec 1 (1 + i) (1 + i) 1 cl (l.take i) (List.replicate i (-1)) (l.getD i 0) (-1) (by simp; omega) (by simp; omega)) ⟨_, _, rfl, Zz, ⟨_, _, rfl, Zz, ⟨_, _, rfl, Zz, rfl⟩⟩⟩ ⟨rfl, rfl, rfl, rfl, trivial⟩ rfl rfl rfl rfl rfl rfl) ?_; refine snil (f_nil ?_); show AWs _ _ _ _ _; refine f_region ?_; refine zq (p_add rfl Zz Zz (by omega)) rfl (zm1 rfl rfl rfl (snil ?_))
      refine f_back ⟨i + 1, ?_, ?_, le_ofL ⟨rfl, rfl, rfl, (by rw [Sp.take_getD l i 0 (by omega)]; rfl), (by rw [List.replicate_succ']; rfl), (by rw [Sp.take_getD l i 0 (by omega)]; rfl), rfl, rfl, rfl, trivial⟩ rfl⟩
      · omega
      · omega
    · intro hc1; (try simp only [bs] at hc1); refine f_exit ?_; show AWs _ _ _ _ _; refine f_seq ?_
      obtain rfl : i = l.length := by omega
      rw [List.take_length]
      have hol := Sp.on_len cl l (List.replicate l.length (-1))
      refine f_region ?_; refine zq (p_move (y := .ref _ _ _) rfl Zz rfl) rfl ?_; refine zq (p_move (y := .ref _ _ _) rfl Zz rfl) rfl ?_; refine scons (r_callB rfl wTop3_isf75 (Run_spec 1 (1 + l.length) (1 + l.length) 1 cl l (List.replicate l.length (-1)) (Sp.on cl l (List.replicate l.length (-1))).1 (Sp.on cl l (List.replicate l.length (-1))).2.1 (Sp.on cl l (List.replicate l.length (-1))).2.2 ((Sp.on cl l (List.replicate l.length (-1))).1.length - l.length) hC (by have := Sp.room_le cl l; omega) (by simp; omega) (by omega) rfl (by omega)) ⟨_, _, rfl, Zz, rfl⟩ ⟨rfl, rfl, rfl, rfl, trivial⟩ rfl rfl rfl rfl rfl rfl) ?_; refine zq (p_assign (y := .ref _ _ _) rfl Zz rfl) rfl (zm2 rfl rfl rfl (snil (f_ret ?_)))
      refine endsF_ret (resF_eq (resF2 rfl (resF_trail rfl rfl rfl rfl rfl rfl) (resF_flat rfl (Sees.of rfl) rfl)) ?_)
      rfl

set_option maxHeartbeats 2000000 in
theorem trStep_spec (n : Nat) (g ls : List (List Int)) (s : Sp.Trs) (c : List Int) (uk un uo : Nat) (hT : Sp.Ti n g ls s) (hc : Sp.Okc n c) (hr : Sp.Rup ls c) (hn : n ≤ 24) (hkn : s.kn.length ≤ 4000) (hg : g.length ≤ 400) :
    SpecB Go.Proofs.Tryz.prog 62 [.ref 30000 0 0, .val (ints c)] [(30000, .box 0 (.ccons (.row 30001 uk) (.ccons (.row 30002 un) (.ccons (iv (s.nx)) (.ccons (.row 30003 uo) .cnil))))), (30001, .arr uk 22 1 24 ints [] (s.kn)), (30002, .arr un 3 1 8 di 0 (s.nu)), (30003, .arr uo 138 3 24 dCho (0, 0, 0) (s.out))] (.tup .nil) [(30000, .box 0 (.ccons (.row 30001 (uk + 1)) (.ccons (.row 30002 (un + 1)) (.ccons (iv ((s.step c).nx)) (.ccons (.row 30003 (uo + ((s.step c).out.length - s.out.length))) .cnil))))), (30001, .arr (uk + 1) 22 1 24 ints [] ((s.step c).kn)), (30002, .arr (un + 1) 3 1 8 di 0 ((s.step c).nu)), (30003, .arr (uo + ((s.step c).out.length - s.out.length)) 138 3 24 dCho (0, 0, 0) ((s.step c).out))] := by
  refine specB_of' Go.Proofs.Tryz.func62 rfl Go.Proofs.Tryz.ntmps62 rfl rfl rfl ?_
  refine f_seq ?_
  obtain ⟨q1, q2, hrd, hq0, hqe⟩ := hT.q hc hr
  have hol := hT.ol
  have hcl := Sp.okc_len hc
  have hLn := Sp.tr_len hT hn hkn hc
  have hfn := Sp.okc_fine (by omega) hc
  have hrl := Sp.tr_room hT hn hkn
  have hnl := hT.nl
  have hnx := hT.db.nx
  have hlw := hrd.len
  refine f_draw wTop3_mix (by kernel_rfl) ?_; refine yq (p_move (y := .ref _ _ _) rfl Zz rfl) rfl ?_; refine yq (p_nilRef rfl Zz rfl) rfl ?_; refine yq (p_fieldRef rfl wTop3_fld124_0 wTop3_siz23 rfl Zz rfl) rfl ?_; refine yq (p_loadB (y := .row _ _) rfl wTop3_agg23 Zz rfl rfl rfl rfl) rfl (zd1 rfl rfl rfl ?_); refine yc (c_call rfl wTop3_isf76 ⟨_, _, rfl, Zz, rfl, rfl⟩ (Negated_spec c hfn.2 hfn.1)) rfl ?_; refine yc (c_callF (q := true) rfl wTop3_isf90 (AssumeF_spec s.kn (c.map fun x => -x) hrl.1 (by simp; omega) hrl.2 (by omega)) (sa_cons (sh_row Zz rfl) (sa_cons (sh_of Zz rfl) (sa_nil)))) rfl ?_; refine zd1 rfl rfl rfl ?_; refine yq (p_extract rfl Zz rfl) rfl ?_; refine yq (p_extract rfl Zz rfl) rfl (zd2 rfl rfl rfl (zd2 rfl rfl rfl ?_)); refine dnil (by kernel_rfl) (f_seq (f_seq ?_))
  rw [show Sp.on s.kn (c.map fun x => -x) (List.replicate (c.map fun x => -x).length (-1)) = (Sp.trOn s.kn c) from rfl]
  refine f_region (zm1 rfl rfl rfl ?_); refine zq (p_lss rfl Zz Zz) rfl (snil (f_cond rfl ?_ ?_))
  · intro hc1; (try simp only [bs] at hc1)
    exfalso
    omega
  · intro hc1; (try simp only [bs] at hc1); refine f_skip (f_seq ?_)
    have hbf := Sp.okc_fine (by omega : n ≤ 1000) (hT.okc _ (Sp.getD_mem s.kn (Sp.trOn s.kn c).2.2.toNat [] q2))
    refine f_draw wTop3_mix (by kernel_rfl) ?_; refine yq (p_move (y := .ref _ _ _) rfl Zz rfl) rfl ?_; refine yq (p_nilRef rfl Zz rfl) rfl ?_; refine yq (p_fieldRef rfl wTop3_fld124_0 wTop3_siz23 rfl Zz rfl) rfl ?_; refine yq (p_loadB (y := .row _ _) rfl wTop3_agg23 Zz rfl rfl rfl rfl) rfl (zd1 rfl rfl rfl ?_); refine yq ((by first | exact p_indexR rfl wTop3_isl23 wTop3_siz22 Zz rfl Zz (by omega) | exact p_indexRZ rfl wTop3_isl23 wTop3_siz22 Zz rfl Zz (by omega) (by omega))) rfl ?_; refine yq (p_loadE rfl wTop3_agg22 Zz rfl (by omega) (fun _ => rfl)) rfl ?_; refine yc (c_call rfl wTop3_isf51 ⟨_, _, rfl, Zz, rfl, rfl⟩ (sorted_spec (s.kn.getD (Sp.trOn s.kn c).2.2.toNat []) hbf.1 hbf.2)) rfl ?_; refine yq (p_move (y := .ref _ _ _) rfl Zz rfl) rfl ?_; refine yq (p_nilRef rfl Zz rfl) rfl ?_; refine yq (p_fieldRef rfl wTop3_fld124_1 wTop3_siz22 rfl Zz rfl) rfl ?_; refine yq (p_loadB (y := .row _ _) rfl wTop3_agg22 Zz rfl rfl rfl rfl) rfl (zd1 rfl rfl rfl ?_); refine yq ((by first | exact p_indexR rfl wTop3_isl22 wTop3_siz3 Zz rfl Zz (by omega) | exact p_indexRZ rfl wTop3_isl22 wTop3_siz3 Zz rfl Zz (by omega) (by omega))) rfl ?_; refine yq (p_loadE rfl wTop3_agg3 Zz rfl (by omega) (fun _ => rfl)) rfl (zd2 rfl rfl rfl (zd2 rfl rfl rfl ?_)); refine dnil (by kernel_rfl) (f_seq (f_seq (f_region (zm1 rfl rfl rfl ?_)))); refine zq (p_nilPtr rfl (Sees.dptr rfl)) rfl ?_; refine zq (p_fieldAddr rfl wTop3_fld106_1 wTop3_siz22 (by decide) Zz rfl rfl) rfl ?_; refine zq (p_load rfl wTop3_agg22 Zz rfl) rfl ?_; refine zq (p_len rfl wTop3_isl22 Zz) rfl ?_; refine zq (p_sub rfl Zz Zz (by omega)) rfl (zm2 rfl rfl rfl (snil (f_block ?_)))
    refine f_loop (α := Nat × Sp.Tq × Nat) (fun (k, q, d) => k ≤ (Sp.trOn s.kn c).1.length ∧ Sp.tbk s.kn s.nu (Sp.trOn s.kn c).1 (Sp.trOn s.kn c).2.1 (Sp.trOn s.kn c).1.length (Sp.litSort (s.kn.getD (Sp.trOn s.kn c).2.2.toNat []), s.nu.getD (Sp.trOn s.kn c).2.2.toNat 0, s.nx, s.out) = Sp.tbk s.kn s.nu (Sp.trOn s.kn c).1 (Sp.trOn s.kn c).2.1 k q ∧ (c.length ≤ k → Sp.Tb n g s.kn s.nu (Sp.trOn s.kn c).1 k q) ∧ q.2.2.2.length = s.out.length + d ∧ d + k ≤ (Sp.trOn s.kn c).1.length) (fun (k, q, d) => [(8, iv ((k : Int) - 1)), (6, .val (ints q.1)), (7, iv q.2.1), (4, .val (.ptr (.agg (.cons .any (.cons (ints (Sp.trOn s.kn c).1) (.cons (ints (Sp.trOn s.kn c).2.1) (.cons .any .nil))))))), (0, .ref 30000 0 0), (30000, .box 0 (.ccons (.row 30001 uk) (.ccons (.row 30002 un) (.ccons (iv (q.2.2.1)) (.ccons (.row 30003 (uo + d)) .cnil))))), (30001, .arr uk 22 1 24 ints [] (s.kn)), (30002, .arr un 3 1 8 di 0 (s.nu)), (30003, .arr (uo + d) 138 3 24 dCho (0, 0, 0) (q.2.2.2)), (29999, .clo 0 (.ccons (.ref 30000 0 0) (.ccons (.row 30000 0) (.ccons (.row 30001 uk) (.ccons (.row 30002 un) (.ccons (.row 30003 uo) .cnil))))))]) (fun (k, q, d) => k) ((Sp.trOn s.kn c).1.length, (Sp.litSort (s.kn.getD (Sp.trOn s.kn c).2.2.toNat []), s.nu.getD (Sp.trOn s.kn c).2.2.toNat 0, s.nx, s.out), 0) ?_ ?_ ?_
    · exact ⟨Nat.le_refl _, rfl, fun _ => hq0, rfl, by omega⟩
    · exact le_ofL ⟨rfl, rfl, rfl, rfl, rfl, rfl, rfl, rfl, rfl, rfl, trivial⟩ rfl
    · rintro ⟨k, q, d⟩ ⟨hk, hq, htb, hd, hdk⟩
      have hk : k ≤ (Sp.trOn s.kn c).1.length := hk
      refine f_seq (f_seq (f_region (zm1 rfl rfl rfl ?_))); refine zq (p_geq rfl Zz Zz) rfl (snil (f_cond rfl ?_ ?_))
      · intro hc2; (try simp only [bs] at hc2)
        have he : ((k : Int) - 1).toNat = k - 1 := by omega
        refine f_skip (f_seq (f_block (f_seq ?_))); refine f_draw wTop3_mix (by kernel_rfl) (zd1 rfl rfl rfl ?_); refine yq (p_nilPtr rfl (Sees.dptr rfl)) rfl ?_; refine yq (p_fieldAddr rfl wTop3_fld106_1 wTop3_siz22 (by decide) Zz rfl rfl) rfl ?_; refine yq (p_load rfl wTop3_agg22 Zz rfl) rfl (zd1 rfl rfl rfl ?_); refine yq ((by first | exact p_indexN rfl wTop3_isl22 wTop3_siz3 Zz Zz (by omega) | exact p_index rfl wTop3_isl22 wTop3_siz3 Zz Zz (by omega) (by omega))) rfl ?_; refine yq (p_load rfl wTop3_agg3 Zz rfl) rfl (zd1 rfl rfl rfl ?_); refine yq (p_nilPtr rfl (Sees.dptr rfl)) rfl ?_; refine yq (p_fieldAddr rfl wTop3_fld106_2 wTop3_siz22 (by decide) Zz rfl rfl) rfl ?_; refine yq (p_load rfl wTop3_agg22 Zz rfl) rfl (zd1 rfl rfl rfl ?_); refine yq ((by first | exact p_indexN rfl wTop3_isl22 wTop3_siz3 Zz Zz (by omega) | exact p_index rfl wTop3_isl22 wTop3_siz3 Zz Zz (by omega) (by omega))) rfl ?_; refine yq (p_load rfl wTop3_agg3 Zz rfl) rfl (zd2 rfl rfl rfl (zd2 rfl rfl rfl ?_)); refine dnil (by kernel_rfl) (f_seq (f_seq ?_))
        have hlg := Sp.rd_good hT.okc hc hrd (i := ((k : Int) - 1).toNat) (by omega)
        refine f_region (zm1 rfl rfl rfl ?_); refine zq (p_lss rfl Zz Zz) rfl (zm1 rfl rfl rfl ?_); refine scons (CStep.guard rfl rfl rfl (fun hg0 => PStep.c (p_move (y := .val _) rfl Zz rfl)) rfl rfl rfl rfl rfl) ?_; refine scons (CStep.guard rfl rfl rfl (fun hg0 => PStep.c (p_move (y := .val _) rfl Zz rfl)) rfl rfl rfl rfl rfl) ?_; refine scons (CStep.guard rfl rfl rfl (fun hg0 => by have hp0 := hg0; (try simp only [bs] at hp0); exact PStep.c (p_neg rfl (Sees.gv' rfl hg0) (by omega))) rfl rfl rfl rfl rfl) ?_; refine scons (CStep.guard rfl rfl rfl (fun hg0 => c_call rfl wTop3_isf81 ⟨_, _, rfl, (Sees.gv' rfl hg0), rfl, ⟨_, _, rfl, (Sees.gv' rfl hg0), rfl, rfl⟩⟩ (hasI_spec q.1 (-((Sp.trOn s.kn c).1.getD ((k : Int) - 1).toNat 0)))) rfl rfl rfl rfl rfl) ?_; refine scons (CStep.guard rfl rfl rfl (fun hg0 => PStep.c (p_not rfl (Sees.gv' rfl hg0))) rfl rfl rfl rfl rfl) ?_; refine zq (p_or rfl Zz Zz (fun h => Sees.gv' rfl (beq_of_eq h))) rfl (snil (f_cond rfl ?_ ?_))
        · intro hc3; (try simp only [bs] at hc3); refine f_exit ?_; show AWs _ _ _ _ _; refine f_region (zm1 rfl rfl rfl ?_); refine zq (p_sub rfl Zz Zz (by omega)) rfl (zm2 rfl rfl rfl (snil ?_))
          rw [he] at hc3
          have hsk : (Sp.tbS s.kn s.nu (Sp.trOn s.kn c).1 (Sp.trOn s.kn c).2.1 (k - 1) q) = q := Sp.tbS_skip (by simpa using hc3)
          refine f_back ⟨(k - 1, q, d), ?_, ?_, le_ofL ⟨(by show AV.val (.int .i64 ((k : Int) - 1 - 1)) = _; exact congrArg (fun q => AV.val (.int .i64 q)) (by omega)), rfl, rfl, rfl, rfl, rfl, rfl, rfl, rfl, rfl, trivial⟩ rfl⟩
          · exact ⟨by omega, by rw [hq, Sp.tbk_down (by omega), hsk], fun h => by have h2 := Sp.tb_down hT.okc hrd (by omega) hk h (htb (by omega)); rw [hsk] at h2; exact h2, hd, by omega⟩
          · show k - 1 < k
            omega
        · intro hc3; (try simp only [bs] at hc3); refine f_skip (f_seq ?_)
          have hkc : c.length ≤ k - 1 := by
            refine Classical.byContradiction fun hn2 => ?_
            have := hrd.dec (k - 1) (by omega)
            rw [he] at hc3
            omega
          have hTb := htb (by omega)
          have hwr := hrd.rng (k - 1) hkc (by omega)
          rw [← he] at hwr
          have hlk := hrd.mem (k - 1) hkc (by omega)
          rw [← he] at hlk
          have hoA := hT.okc _ (Sp.getD_mem s.kn ((Sp.trOn s.kn c).2.1.getD ((k : Int) - 1).toNat 0).toNat [] hwr.2)
          have hlr := hoA.1 _ hlk
          have hab := Sp.okc_two (by omega) hoA hTb.okc
          have hdn := hTb.db.nx
          refine f_draw wTop3_mix (by kernel_rfl) ?_; refine yq (p_move (y := .ref _ _ _) rfl Zz rfl) rfl ?_; refine yq (p_nilRef rfl Zz rfl) rfl ?_; refine yq (p_fieldRef rfl wTop3_fld124_1 wTop3_siz22 rfl Zz rfl) rfl ?_; refine yq (p_loadB (y := .row _ _) rfl wTop3_agg22 Zz rfl rfl rfl rfl) rfl (zd1 rfl rfl rfl ?_); refine yq ((by first | exact p_indexR rfl wTop3_isl22 wTop3_siz3 Zz rfl Zz (by omega) | exact p_indexRZ rfl wTop3_isl22 wTop3_siz3 Zz rfl Zz (by omega) (by omega))) rfl ?_; refine yq (p_loadE rfl wTop3_agg3 Zz rfl (by omega) (fun _ => rfl)) rfl (zd1 rfl rfl rfl (zd1 rfl rfl rfl ?_)); refine yc (c_call rfl wTop3_isf43 ⟨_, _, rfl, Zz, rfl, rfl⟩ (var_spec ((Sp.trOn s.kn c).1.getD ((k : Int) - 1).toNat 0) (by omega))) rfl ?_; refine yq (p_build rfl wTop3_plc138 wTop3_zer138 (by decide) wTop3_zch138 ⟨_, _, _, rfl, rfl, rfl, Zz, ⟨_, _, _, rfl, rfl, rfl, Zz, ⟨_, _, _, rfl, rfl, rfl, Zz, rfl⟩⟩⟩ rfl) rfl ?_; refine dcons (r_alloc (ob := 10011) rfl wTop3_zer138 rfl rfl rfl rfl rfl rfl) ?_; refine dcons (r_storeS rfl wTop3_siz138 rfl rfl rfl Zz rfl Zz rfl rfl rfl rfl) ?_; refine dnil (by kernel_rfl) (f_seq (f_seq (f_region (zm1 rfl rfl rfl ?_)))); refine zq (p_lss rfl Zz Zz) rfl (snil (f_cond rfl ?_ ?_))
          · intro hc4; (try simp only [bs] at hc4); refine f_region ?_; refine zq (p_fieldRef rfl wTop3_fld138_1 wTop3_siz3 rfl Zz rfl) rfl ?_; refine zq (p_loadB (y := .val _) rfl wTop3_agg3 Zz rfl rfl rfl rfl) rfl ?_; refine zq (p_fieldRef rfl wTop3_fld138_0 wTop3_siz3 rfl Zz rfl) rfl ?_; refine zq (p_loadB (y := .val _) rfl wTop3_agg3 Zz rfl rfl rfl rfl) rfl ?_; refine zq (p_fieldRef rfl wTop3_fld138_0 wTop3_siz3 rfl Zz rfl) rfl ?_; refine scons (r_store rfl wTop3_siz3 rfl rfl rfl Zz rfl rfl Zz (one_val rfl)) ?_; refine zq (p_fieldRef rfl wTop3_fld138_1 wTop3_siz3 rfl Zz rfl) rfl ?_; refine scons (r_store rfl wTop3_siz3 rfl rfl rfl Zz rfl rfl Zz (one_val rfl)) (snil (f_seq ?_)); refine f_draw wTop3_mix (by kernel_rfl) ?_; refine yq (p_move (y := .ref _ _ _) rfl Zz rfl) rfl ?_; refine yq (p_move (y := .ref _ _ _) rfl Zz rfl) rfl ?_; refine yq (p_nilRef rfl Zz rfl) rfl ?_; refine yq (p_fieldRef rfl wTop3_fld124_3 wTop3_siz64 rfl Zz rfl) rfl ?_; refine yq (p_loadB (y := .row _ _) rfl wTop3_agg64 Zz rfl rfl rfl rfl) rfl ?_; refine yq (p_loadBS rfl wTop3_agg138 wTop3_siz138 Zz rfl rfl rfl) rfl ?_; refine yc (c_buildSlice (f := dCho) (za := (0, 0, 0)) (xs := [.tmp 96]) rfl rfl wTop3_isl64 wTop3_siz138 wTop3_zer138 rfl rfl ⟨(_, _, _), _, rfl, Zz, rfl, rfl, rfl⟩) rfl ?_; refine dcons (r_appendR (ob := 30003) rfl wTop3_isl64 wTop3_siz138 wTop3_byt138 wTop3_zer138 rfl rfl Zz rfl Zz (by simp only [List.length_cons, List.length_nil]; omega) (by simp only [List.length_cons, List.length_nil]; omega) rfl rfl rfl rfl rfl) ?_; refine yq (p_nilRef rfl Zz rfl) rfl ?_; refine yq (p_fieldRef rfl wTop3_fld124_3 wTop3_siz64 rfl Zz rfl) rfl ?_; refine dcons (r_storeR rfl wTop3_siz64 rfl rfl rfl Zz rfl rfl Zz rfl) ?_; refine dnil (by kernel_rfl) (f_seq ?_); refine f_draw wTop3_mix (by kernel_rfl) ?_; refine yq (p_move (y := .ref _ _ _) rfl Zz rfl) rfl ?_; refine yq (p_nilRef rfl Zz rfl) rfl ?_; refine yq (p_fieldRef rfl wTop3_fld124_0 wTop3_siz23 rfl Zz rfl) rfl ?_; refine yq (p_loadB (y := .row _ _) rfl wTop3_agg23 Zz rfl rfl rfl rfl) rfl (zd1 rfl rfl rfl ?_); refine yq ((by first | exact p_indexR rfl wTop3_isl23 wTop3_siz22 Zz rfl Zz (by omega) | exact p_indexRZ rfl wTop3_isl23 wTop3_siz22 Zz rfl Zz (by omega) (by omega))) rfl ?_; refine yq (p_loadE rfl wTop3_agg22 Zz rfl (by omega) (fun _ => rfl)) rfl (zd1 rfl rfl rfl (zd1 rfl rfl rfl ?_)); refine yc (c_call rfl wTop3_isf43 ⟨_, _, rfl, Zz, rfl, rfl⟩ (var_spec ((Sp.trOn s.kn c).1.getD ((k : Int) - 1).toNat 0) (by omega))) rfl ?_; refine yc (c_call rfl wTop3_isf102 ⟨_, _, rfl, Zz, rfl, ⟨_, _, rfl, Zz, rfl, ⟨_, _, rfl, Zz, rfl, rfl⟩⟩⟩ (resolve_spec (s.kn.getD ((Sp.trOn s.kn c).2.1.getD ((k : Int) - 1).toNat 0).toNat []) q.1 (Sp.av ((Sp.trOn s.kn c).1.getD ((k : Int) - 1).toNat 0)) hab.1 hab.2)) rfl (zd1 rfl rfl rfl ?_); refine yq (p_extract rfl Zz rfl) rfl ?_; refine yq (p_extract rfl Zz rfl) rfl (zd2 rfl rfl rfl ?_); refine dnil (by kernel_rfl) (f_seq (f_region ?_)); refine zq (p_move (y := .ref _ _ _) rfl Zz rfl) rfl ?_; refine zq (p_nilRef rfl Zz rfl) rfl ?_; refine zq (p_fieldRef rfl wTop3_fld124_2 wTop3_siz3 rfl Zz rfl) rfl ?_; refine zq (p_loadB (y := .val _) rfl wTop3_agg3 Zz rfl rfl rfl rfl) rfl (zm2 rfl rfl rfl (snil (f_region ?_))); refine zq (p_move (y := .ref _ _ _) rfl Zz rfl) rfl ?_; refine zq (p_nilRef rfl Zz rfl) rfl ?_; refine zq (p_fieldRef rfl wTop3_fld124_2 wTop3_siz3 rfl Zz rfl) rfl ?_; refine zq (p_loadB (y := .val _) rfl wTop3_agg3 Zz rfl rfl rfl rfl) rfl ?_; refine zq (p_add rfl Zz Zz (by omega)) rfl ?_; refine zq (p_nilRef rfl Zz rfl) rfl ?_; refine zq (p_fieldRef rfl wTop3_fld124_2 wTop3_siz3 rfl Zz rfl) rfl ?_; refine scons (r_store rfl wTop3_siz3 rfl rfl rfl Zz rfl rfl Zz (one_val rfl)) (snil (f_nil ?_)); show AWs _ _ _ _ _; refine f_region (zm1 rfl rfl rfl ?_); refine zq (p_sub rfl Zz Zz (by omega)) rfl (zm2 rfl rfl rfl (snil ?_))
            have hng : ¬ ((Sp.trOn s.kn c).2.1.getD (k - 1) 0 < 0 ∨ -(Sp.trOn s.kn c).1.getD (k - 1) 0 ∉ q.1) := by
              rw [← he]
              intro h
              rcases h with h | h
              · omega
              · exact h (by simpa using hc3.2)
            have hgo : (Sp.tbS s.kn s.nu (Sp.trOn s.kn c).1 (Sp.trOn s.kn c).2.1 (k - 1) q) = (((Sp.resolve (s.kn.getD ((Sp.trOn s.kn c).2.1.getD ((k : Int) - 1).toNat 0).toNat []) q.1 (Sp.av ((Sp.trOn s.kn c).1.getD ((k : Int) - 1).toNat 0))).getD []), q.2.2.1, q.2.2.1 + 1, q.2.2.2 ++ [(q.2.1, (s.nu.getD ((Sp.trOn s.kn c).2.1.getD ((k : Int) - 1).toNat 0).toNat 0), Sp.av ((Sp.trOn s.kn c).1.getD ((k : Int) - 1).toNat 0))]) := by
              rw [Sp.tbS_go hng, he, if_pos (by rw [← he]; exact hc4)]
            refine f_back ⟨(k - 1, (Sp.tbS s.kn s.nu (Sp.trOn s.kn c).1 (Sp.trOn s.kn c).2.1 (k - 1) q), d + 1), ?_, ?_, le_ofL ⟨(by show AV.val (.int .i64 ((k : Int) - 1 - 1)) = _; exact congrArg (fun q => AV.val (.int .i64 q)) (by omega)), (by rw [hgo]; rfl), (by rw [hgo]; rfl), rfl, rfl, (by rw [hgo]; rfl), rfl, rfl, (by rw [hgo]; rfl), rfl, trivial⟩ rfl⟩
            · exact ⟨by omega, by rw [hq, Sp.tbk_down (by omega)], fun h => Sp.tb_down hT.okc hrd (by omega) hk h (htb (by omega)), by rw [hgo]; show (q.2.2.2 ++ [_]).length = _; rw [List.length_append, List.length_singleton]; omega, by omega⟩
            · show k - 1 < k
              omega
          · intro hc4; (try simp only [bs] at hc4); refine f_skip (f_seq ?_); refine f_draw wTop3_mix (by kernel_rfl) ?_; refine yq (p_move (y := .ref _ _ _) rfl Zz rfl) rfl ?_; refine yq (p_move (y := .ref _ _ _) rfl Zz rfl) rfl ?_; refine yq (p_nilRef rfl Zz rfl) rfl ?_; refine yq (p_fieldRef rfl wTop3_fld124_3 wTop3_siz64 rfl Zz rfl) rfl ?_; refine yq (p_loadB (y := .row _ _) rfl wTop3_agg64 Zz rfl rfl rfl rfl) rfl ?_; refine yq (p_loadBS rfl wTop3_agg138 wTop3_siz138 Zz rfl rfl rfl) rfl ?_; refine yc (c_buildSlice (f := dCho) (za := (0, 0, 0)) (xs := [.tmp 96]) rfl rfl wTop3_isl64 wTop3_siz138 wTop3_zer138 rfl rfl ⟨(_, _, _), _, rfl, Zz, rfl, rfl, rfl⟩) rfl ?_; refine dcons (r_appendR (ob := 30003) rfl wTop3_isl64 wTop3_siz138 wTop3_byt138 wTop3_zer138 rfl rfl Zz rfl Zz (by simp only [List.length_cons, List.length_nil]; omega) (by simp only [List.length_cons, List.length_nil]; omega) rfl rfl rfl rfl rfl) ?_; refine yq (p_nilRef rfl Zz rfl) rfl ?_; refine yq (p_fieldRef rfl wTop3_fld124_3 wTop3_siz64 rfl Zz rfl) rfl ?_; refine dcons (r_storeR rfl wTop3_siz64 rfl rfl rfl Zz rfl rfl Zz rfl) ?_; refine dnil (by kernel_rfl) (f_seq ?_); refine f_draw wTop3_mix (by kernel_rfl) ?_; refine yq (p_move (y := .ref _ _ _) rfl Zz rfl) rfl ?_; refine yq (p_nilRef rfl Zz rfl) rfl ?_; refine yq (p_fieldRef rfl wTop3_fld124_0 wTop3_siz23 rfl Zz rfl) rfl ?_; refine yq (p_loadB (y := .row _ _) rfl wTop3_agg23 Zz rfl rfl rfl rfl) rfl (zd1 rfl rfl rfl ?_); refine yq ((by first | exact p_indexR rfl wTop3_isl23 wTop3_siz22 Zz rfl Zz (by omega) | exact p_indexRZ rfl wTop3_isl23 wTop3_siz22 Zz rfl Zz (by omega) (by omega))) rfl ?_; refine yq (p_loadE rfl wTop3_agg22 Zz rfl (by omega) (fun _ => rfl)) rfl (zd1 rfl rfl rfl (zd1 rfl rfl rfl ?_)); refine yc (c_call rfl wTop3_isf43 ⟨_, _, rfl, Zz, rfl, rfl⟩ (var_spec ((Sp.trOn s.kn c).1.getD ((k : Int) - 1).toNat 0) (by omega))) rfl ?_; refine yc (c_call rfl wTop3_isf102 ⟨_, _, rfl, Zz, rfl, ⟨_, _, rfl, Zz, rfl, ⟨_, _, rfl, Zz, rfl, rfl⟩⟩⟩ (resolve_spec (s.kn.getD ((Sp.trOn s.kn c).2.1.getD ((k : Int) - 1).toNat 0).toNat []) q.1 (Sp.av ((Sp.trOn s.kn c).1.getD ((k : Int) - 1).toNat 0)) hab.1 hab.2)) rfl (zd1 rfl rfl rfl ?_); refine yq (p_extract rfl Zz rfl) rfl ?_; refine yq (p_extract rfl Zz rfl) rfl (zd2 rfl rfl rfl ?_); refine dnil (by kernel_rfl) (f_seq (f_region ?_)); refine zq (p_move (y := .ref _ _ _) rfl Zz rfl) rfl ?_; refine zq (p_nilRef rfl Zz rfl) rfl ?_; refine zq (p_fieldRef rfl wTop3_fld124_2 wTop3_siz3 rfl Zz rfl) rfl ?_; refine zq (p_loadB (y := .val _) rfl wTop3_agg3 Zz rfl rfl rfl rfl) rfl (zm2 rfl rfl rfl (snil (f_region ?_))); refine zq (p_move (y := .ref _ _ _) rfl Zz rfl) rfl ?_; refine zq (p_nilRef rfl Zz rfl) rfl ?_; refine zq (p_fieldRef rfl wTop3_fld124_2 wTop3_siz3 rfl Zz rfl) rfl ?_; refine zq (p_loadB (y := .val _) rfl wTop3_agg3 Zz rfl rfl rfl rfl) rfl ?_; refine zq (p_add rfl Zz Zz (by omega)) rfl ?_; refine zq (p_nilRef rfl Zz rfl) rfl ?_; refine zq (p_fieldRef rfl wTop3_fld124_2 wTop3_siz3 rfl Zz rfl) rfl ?_; refine scons (r_store rfl wTop3_siz3 rfl rfl rfl Zz rfl rfl Zz (one_val rfl)) (snil (f_nil ?_)); show AWs _ _ _ _ _; refine f_region (zm1 rfl rfl rfl ?_); refine zq (p_sub rfl Zz Zz (by omega)) rfl (zm2 rfl rfl rfl (snil ?_))
            have hng : ¬ ((Sp.trOn s.kn c).2.1.getD (k - 1) 0 < 0 ∨ -(Sp.trOn s.kn c).1.getD (k - 1) 0 ∉ q.1) := by
              rw [← he]
              intro h
              rcases h with h | h
              · omega
              · exact h (by simpa using hc3.2)
            have hgo : (Sp.tbS s.kn s.nu (Sp.trOn s.kn c).1 (Sp.trOn s.kn c).2.1 (k - 1) q) = (((Sp.resolve (s.kn.getD ((Sp.trOn s.kn c).2.1.getD ((k : Int) - 1).toNat 0).toNat []) q.1 (Sp.av ((Sp.trOn s.kn c).1.getD ((k : Int) - 1).toNat 0))).getD []), q.2.2.1, q.2.2.1 + 1, q.2.2.2 ++ [((s.nu.getD ((Sp.trOn s.kn c).2.1.getD ((k : Int) - 1).toNat 0).toNat 0), q.2.1, Sp.av ((Sp.trOn s.kn c).1.getD ((k : Int) - 1).toNat 0))]) := by
              rw [Sp.tbS_go hng, he, if_neg (by rw [← he]; omega)]
            refine f_back ⟨(k - 1, (Sp.tbS s.kn s.nu (Sp.trOn s.kn c).1 (Sp.trOn s.kn c).2.1 (k - 1) q), d + 1), ?_, ?_, le_ofL ⟨(by show AV.val (.int .i64 ((k : Int) - 1 - 1)) = _; exact congrArg (fun q => AV.val (.int .i64 q)) (by omega)), (by rw [hgo]; rfl), (by rw [hgo]; rfl), rfl, rfl, (by rw [hgo]; rfl), rfl, rfl, (by rw [hgo]; rfl), rfl, trivial⟩ rfl⟩
            · exact ⟨by omega, by rw [hq, Sp.tbk_down (by omega)], fun h => Sp.tb_down hT.okc hrd (by omega) hk h (htb (by omega)), by rw [hgo]; show (q.2.2.2 ++ [_]).length = _; rw [List.length_append, List.length_singleton]; omega, by omega⟩
            · show k - 1 < k
              omega
      · intro hc2; (try simp only [bs] at hc2)
        obtain rfl : k = 0 := by omega
        refine f_exit ?_; show AWs _ _ _ _ _; refine f_draw wTop3_mix (by kernel_rfl) ?_; refine yq (p_move (y := .ref _ _ _) rfl Zz rfl) rfl ?_; refine yq (p_move (y := .ref _ _ _) rfl Zz rfl) rfl ?_; refine yq (p_move (y := .ref _ _ _) rfl Zz rfl) rfl ?_; refine yq (p_nilRef rfl Zz rfl) rfl ?_; refine yq (p_fieldRef rfl wTop3_fld124_0 wTop3_siz23 rfl Zz rfl) rfl ?_; refine yq (p_loadB (y := .row _ _) rfl wTop3_agg23 Zz rfl rfl rfl rfl) rfl (zd1 rfl rfl rfl ?_); refine yc (c_buildSlice (f := ints) (za := []) (xs := [.tmp 132]) rfl rfl wTop3_isl23 wTop3_siz22 wTop3_zer22 rfl rfl ⟨_, _, rfl, Zz, rfl, rfl, rfl⟩) rfl ?_; refine dcons (r_appendR (ob := 30001) rfl wTop3_isl23 wTop3_siz22 wTop3_byt22 wTop3_zer22 rfl rfl Zz rfl Zz (by simp only [List.length_cons, List.length_nil]; omega) (by simp only [List.length_cons, List.length_nil]; omega) rfl rfl rfl rfl rfl) ?_; refine yq (p_move (y := .ref _ _ _) rfl Zz rfl) rfl ?_; refine yq (p_nilRef rfl Zz rfl) rfl ?_; refine yq (p_fieldRef rfl wTop3_fld124_1 wTop3_siz22 rfl Zz rfl) rfl ?_; refine yq (p_loadB (y := .row _ _) rfl wTop3_agg22 Zz rfl rfl rfl rfl) rfl (zd1 rfl rfl rfl ?_); refine yc (c_buildSlice (f := di) (za := 0) (xs := [.tmp 139]) rfl rfl wTop3_isl22 wTop3_siz3 wTop3_zer3 rfl rfl ⟨_, _, rfl, Zz, rfl, rfl, rfl⟩) rfl ?_; refine dcons (r_appendR (ob := 30002) rfl wTop3_isl22 wTop3_siz3 wTop3_byt3 wTop3_zer3 rfl rfl Zz rfl Zz (by simp only [List.length_cons, List.length_nil]; omega) (by simp only [List.length_cons, List.length_nil]; omega) rfl rfl rfl rfl rfl) ?_; refine yq (p_nilRef rfl Zz rfl) rfl ?_; refine yq (p_fieldRef rfl wTop3_fld124_0 wTop3_siz23 rfl Zz rfl) rfl ?_; refine dcons (r_storeR rfl wTop3_siz23 rfl rfl rfl Zz rfl rfl Zz rfl) ?_; refine yq (p_nilRef rfl Zz rfl) rfl ?_; refine yq (p_fieldRef rfl wTop3_fld124_1 wTop3_siz22 rfl Zz rfl) rfl ?_; refine dcons (r_storeR rfl wTop3_siz22 rfl rfl rfl Zz rfl rfl Zz rfl) ?_; refine dnil (by kernel_rfl) ?_
        have hsq : s.q c = q := hq
        have ho : (s.step c).out = q.2.2.2 := by show (s.q c).2.2.2 = _; rw [hsq]
        have hkn2 : (s.step c).kn = s.kn ++ [q.1] := by show s.kn ++ [(s.q c).1] = _; rw [hsq]
        have hnu2 : (s.step c).nu = s.nu ++ [q.2.1] := by show s.nu ++ [(s.q c).2.1] = _; rw [hsq]
        have hnx2 : (s.step c).nx = q.2.2.1 := by show (s.q c).2.2.1 = _; rw [hsq]
        have hde : (s.step c).out.length - s.out.length = d := by rw [ho]; omega
        refine endsB_end (resB_eq (resB_none rfl) ?_) ⟨rfl, (by rw [hde, hnx2]; rfl), (by rw [hkn2]; rfl), (by rw [hnu2]; rfl), (by rw [hde, ho]; rfl), trivial⟩ rfl
        rfl

theorem trDone1_spec (l : List Int) :
    Spec Go.Proofs.Tryz.prog 101 [.val (ints l)] (D.bool (decide (l = []))) := by
  refine spec_of' Go.Proofs.Tryz.func101 rfl Go.Proofs.Tryz.ntmps101 rfl ?_
  refine f_seq (f_region (zm2 rfl rfl rfl (snil (f_seq (f_region (zm1 rfl rfl rfl ?_)))))); refine zq (p_len rfl wTop3_isl22 Zz) rfl ?_; refine zq (p_eql rfl Zz Zz) rfl (zm2 rfl rfl rfl (snil (f_ret ?_)))
  refine ends_ret (res_eq (res1 rfl (res_tmp rfl (Sees.of rfl))) ?_)
  simp

theorem trDone_spec (kn : List (List Int)) (nu : List Int) (nx : Int) (out : List Sp.Rs) :
    Spec Go.Proofs.Tryz.prog 61 [.val (.ptr (.agg (.cons (intss kn) (.cons (ints nu) (.cons (di nx) (.cons (chos out) .nil))))))] (D.bool (kn.any fun l => decide (l = []))) := by
  refine spec_of' Go.Proofs.Tryz.func61 rfl Go.Proofs.Tryz.ntmps61 rfl ?_
  refine f_seq (f_region (zm2 rfl rfl rfl (snil (f_seq (f_region (zm1 rfl rfl rfl ?_)))))); refine zq (p_nilPtr rfl (Sees.dptr rfl)) rfl ?_; refine zq (p_fieldAddr rfl wTop3_fld124_0 wTop3_siz23 (by decide) Zz rfl rfl) rfl ?_; refine zq (p_load rfl wTop3_agg23 Zz rfl) rfl ?_; refine zc (c_callS (q := false) rfl wTop3_isf56 (containsII_spec kn (fun l => decide (l = [])) (fun _ => True) (fun _ _ => trivial)) (sa_cons (sh_of Zz rfl) (sa_cons (sh_clo Zz wTop3_isf101 (sl_nil) (fun _ => rfl) (fun _ => rfl) (fun y => trDone1_spec y.1)) (sa_nil))) rfl) rfl (zm2 rfl rfl rfl (snil (f_ret ?_)))
  refine ends_ret (res_eq (res1 rfl (res_tmp rfl (Sees.of rfl))) ?_)
  rfl

set_option maxHeartbeats 2000000 in
theorem resOf_spec (n : Nat) (ls st : List (List Int)) (h : Sp.Taken n ls st) (h0 : [] ∈ ls ++ st) (hn : n ≤ 24) :
    Spec Go.Proofs.Tryz.prog 20 [.val (cnf n ls), .val (stps (lrn st))] (two (chos (Sp.trOf ls st).1) (fault (Sp.trOf ls st).2.1 (Sp.trOf ls st).2.2)) := by
  refine spec_of' Go.Proofs.Tryz.func20 rfl Go.Proofs.Tryz.ntmps20 rfl ?_
  refine f_seq ?_
  have hll := (Sp.check_ok h.ck).2.1
  have hsl := Sp.lrn_len st
  have hst := h.ll
  refine f_region ?_; refine scons (r_box (ob := 10002) rfl Zz rfl rfl rfl rfl rfl rfl) (zm5 rfl rfl rfl ?_); refine scons (r_alloc (ob := 10005) rfl wTop3_zer29 rfl rfl rfl rfl rfl rfl) (snil (f_seq (f_region ?_))); refine zq (p_loadBS rfl wTop3_agg25 wTop3_siz25 Zz rfl rfl rfl) rfl (zm1 rfl rfl rfl ?_); refine zc (c_call rfl wTop3_isf17 ⟨_, _, rfl, Zz, rfl, ⟨_, _, rfl, Zz, rfl, rfl⟩⟩ (Why_spec n ls st h h0)) rfl (zm1 rfl rfl rfl ?_); refine zq (p_extract rfl Zz rfl) rfl ?_; refine zq (p_extract rfl Zz rfl) rfl ?_; refine scons (r_alloc (ob := 10007) rfl wTop3_zer29 rfl rfl rfl rfl rfl rfl) (zm2 rfl rfl rfl ?_); refine scons (r_storeS rfl wTop3_siz29 rfl rfl rfl Zz rfl Zz rfl rfl rfl rfl) (snil (f_seq (f_seq (f_region ?_)))); refine zq (p_fieldRef rfl wTop3_fld29_0 wTop3_siz3 rfl Zz rfl) rfl ?_; refine zq (p_loadB (y := .val _) rfl wTop3_agg3 Zz rfl rfl rfl rfl) rfl ?_; refine zq (p_neq rfl Zz Zz) rfl (snil (f_cond rfl ?_ ?_))
  · intro hc1; (try simp only [bs] at hc1)
    exact absurd trivial hc1
  · intro hc1; (try simp only [bs] at hc1); refine f_skip (f_seq (f_seq (f_region (zm1 rfl rfl rfl ?_)))); refine zq (p_neq rfl Zz Zz) rfl (snil (f_cond rfl ?_ ?_))
    · intro hc2; (try simp only [bs] at hc2)
      exact absurd trivial hc2
    · intro hc2; (try simp only [bs] at hc2); refine f_skip (f_seq ?_); refine f_draw wTop3_mix (by kernel_rfl) ?_; refine yq (p_fieldRef rfl wTop3_fld25_1 wTop3_siz23 rfl Zz rfl) rfl ?_; refine yq (p_loadB (y := .val _) rfl wTop3_agg23 Zz rfl rfl rfl rfl) rfl ?_; refine dcons (r_callS (q := false) (ob := 30001) [] rfl wTop3_isf49 (cloneII_spec ls (by omega)) (sa_cons (sh_of Zz rfl) (sa_nil)) (.inl rfl) rfl rfl rfl rfl rfl) ?_; refine yq (p_fieldRef rfl wTop3_fld25_1 wTop3_siz23 rfl Zz rfl) rfl ?_; refine yq (p_loadB (y := .val _) rfl wTop3_agg23 Zz rfl rfl rfl rfl) rfl ?_; refine yq (p_len rfl wTop3_isl23 Zz) rfl ?_; refine yq (p_buildV rfl wTop3_plc124 wTop3_zer124 rfl rfl ⟨_, _, _, _, _, rfl, rfl, rfl, Zz, (oneAt_row rfl), ⟨_, _, _, _, _, rfl, rfl, rfl, Zz, (oneAt_val rfl), ⟨rfl, rfl⟩⟩⟩ rfl) rfl ?_; refine dcons (r_box (ob := 30000) rfl Zz rfl rfl rfl rfl rfl rfl) ?_; refine yq (p_assign (y := .ref _ _ _) rfl Zz rfl) rfl ?_; refine dnil (by kernel_rfl) ?_
      refine f_le (GLe.le (g_adoptB (ob := 30000) (off := 1) (o1 := 30002) 3 1 8 di 0 rfl rfl rfl rfl rfl rfl rfl)) ?_ (by simp)
      refine f_le (GLe.le (g_adoptB (ob := 30000) (off := 3) (o1 := 30003) 138 3 24 dCho (0, 0, 0) rfl rfl rfl rfl rfl rfl rfl)) ?_ (by simp)
      refine f_seq (f_seq (f_region ?_)); refine zq (p_fieldRef rfl wTop3_fld25_1 wTop3_siz23 rfl Zz rfl) rfl ?_; refine zq (p_loadB (y := .val _) rfl wTop3_agg23 Zz rfl rfl rfl rfl) rfl ?_; refine zq (p_len rfl wTop3_isl23 Zz) rfl (zm1 rfl rfl rfl (snil (f_block ?_)))
      refine f_loop (α := Nat) (fun i => i ≤ ls.length) (fun i => [(37, iv i), (8, .ref 30000 0 0), (30000, .box 0 (.ccons (.row 30001 0) (.ccons (.row 30002 i) (.ccons (iv (ls.length)) (.ccons (.row 30003 0) .cnil))))), (30001, .arr 0 22 1 24 ints [] ls), (30002, .arr i 3 1 8 di 0 (((List.range i).map fun i : Nat => (i : Int)))), (30003, .arr 0 138 3 24 dCho (0, 0, 0) ([])), (1, .val (stps (lrn st))), (4, .emp), (5, .ref 10005 0 0), (36, iv ls.length), (10005, .box 0 (.ccons (iv 0) (.ccons (iv 0) .cnil)))]) (fun i => ls.length - i) 0 ?_ ?_ ?_
      · exact Nat.zero_le _
      · exact le_ofL ⟨rfl, rfl, rfl, rfl, rfl, rfl, rfl, rfl, rfl, rfl, rfl, trivial⟩ rfl
      · rintro i hi
        refine f_seq (f_region ?_); refine zq (p_lss rfl Zz Zz) rfl (snil (f_seq (f_cond rfl ?_ ?_)))
        · intro hc3; (try simp only [bs] at hc3); refine f_skip (f_seq (f_block (f_seq (f_region (zm1 rfl rfl rfl (zm2 rfl rfl rfl (snil (f_region ?_)))))))); refine zq (p_move (y := .ref _ _ _) rfl Zz rfl) rfl ?_; refine zq (p_move (y := .ref _ _ _) rfl Zz rfl) rfl ?_; refine zq (p_nilRef rfl Zz rfl) rfl ?_; refine zq (p_fieldRef rfl wTop3_fld124_1 wTop3_siz22 rfl Zz rfl) rfl ?_; refine zq (p_loadB (y := .row _ _) rfl wTop3_agg22 Zz rfl rfl rfl rfl) rfl (zm1 rfl rfl rfl ?_); refine zc (c_buildSlice (f := di) (za := 0) (xs := [.tmp 45]) rfl rfl wTop3_isl22 wTop3_siz3 wTop3_zer3 rfl rfl ⟨_, _, rfl, Zz, rfl, rfl, rfl⟩) rfl ?_; refine scons (r_appendR (ob := 30002) rfl wTop3_isl22 wTop3_siz3 wTop3_byt3 wTop3_zer3 rfl rfl Zz rfl Zz (by simp only [List.length_map, List.length_range, List.length_cons, List.length_nil]; omega) (by simp only [List.length_map, List.length_range, List.length_cons, List.length_nil]; omega) rfl rfl rfl rfl rfl) ?_; refine zq (p_nilRef rfl Zz rfl) rfl ?_; refine zq (p_fieldRef rfl wTop3_fld124_1 wTop3_siz22 rfl Zz rfl) rfl ?_; refine scons (r_storeR rfl wTop3_siz22 rfl rfl rfl Zz rfl rfl Zz rfl) (snil (f_nil ?_)); show AWs _ _ _ _ _; refine f_region ?_; refine zq (p_add rfl Zz Zz (by omega)) rfl (zm1 rfl rfl rfl (snil ?_))
          refine f_back ⟨i + 1, ?_, ?_, le_ofL ⟨rfl, rfl, rfl, rfl, (by rw [Sp.nums_step]; rfl), rfl, rfl, rfl, rfl, rfl, rfl, trivial⟩ rfl⟩
          · omega
          · omega
        · intro hc3; (try simp only [bs] at hc3)
          obtain rfl : i = ls.length := by omega
          refine f_exit ?_; show AWs _ _ _ _ _; refine f_seq (f_seq (f_region (zm1 rfl rfl rfl ?_))); refine zq (p_len rfl wTop3_isl34 Zz) rfl (zm1 rfl rfl rfl (snil (f_block ?_)))
          refine f_loop (α := Nat × Sp.Trs × Nat × Nat × Nat) (fun (i, s, uk, un, uo) => i ≤ st.length ∧ (Sp.trOf ls st) = Sp.trGo (st.drop i) s ∧ Sp.Ti n ls (ls ++ st.take i) s ∧ s.kn.length = ls.length + i) (fun (i, s, uk, un, uo) => [(53, iv i), (8, .ref 30000 0 0), (30000, .box 0 (.ccons (.row 30001 uk) (.ccons (.row 30002 un) (.ccons (iv (s.nx)) (.ccons (.row 30003 uo) .cnil))))), (30001, .arr uk 22 1 24 ints [] (s.kn)), (30002, .arr un 3 1 8 di 0 (s.nu)), (30003, .arr uo 138 3 24 dCho (0, 0, 0) (s.out)), (5, .ref 10005 0 0), (51, .val (stps (lrn st))), (52, iv (lrn st).length), (10005, .box 0 (.ccons (iv 0) (.ccons (iv 0) .cnil)))]) (fun (i, s, uk, un, uo) => st.length - i) (0, Sp.trZero ls, 0, ls.length, 0) ?_ ?_ ?_
          · exact ⟨Nat.zero_le _, rfl, by rw [List.take_zero, List.append_nil]; exact Sp.Ti.zero (Sp.check_okc h.ck), rfl⟩
          · exact le_ofL ⟨rfl, rfl, rfl, rfl, rfl, rfl, rfl, rfl, rfl, rfl, trivial⟩ rfl
          · rintro ⟨i, s, uk, un, uo⟩ ⟨hi, hgo, hTi, hkl⟩
            have hi : i ≤ st.length := hi
            refine f_seq (f_region ?_); refine zq (p_lss rfl Zz Zz) rfl (snil (f_seq (f_cond rfl ?_ ?_)))
            · intro hc4; (try simp only [bs] at hc4); refine f_skip (f_seq (f_block (f_seq (f_region ?_)))); refine zq ((by first | exact p_indexN rfl wTop3_isl34 wTop3_siz54 Zz Zz (by omega) | exact p_index rfl wTop3_isl34 wTop3_siz54 Zz Zz (by omega) (by omega))) rfl ?_; refine zq (p_loadS rfl wTop3_agg54 wTop3_siz54 Zz ⟨rfl, fun h => R_len rfl h⟩) rfl ?_; refine scons (r_alloc (ob := 10011) rfl wTop3_zer54 rfl rfl rfl rfl rfl rfl) ?_; refine scons (r_storeS rfl wTop3_siz54 rfl rfl rfl Zz rfl Zz rfl rfl rfl rfl) (snil (f_seq (f_seq ?_)))
              rw [Sp.lrn_at (by omega)]
              have hci : Sp.Okc n (st.getD i []) := Sp.wrong_iff.1 (h.wr _ (Sp.getD_mem st i [] (by omega))).1
              have hri := h.ch i (by omega)
              refine f_region ?_; refine zq (p_move (y := .ref _ _ _) rfl Zz rfl) rfl ?_; refine zc (c_callS (q := true) rfl wTop3_isf61 ((show Spec _ _ _ (D.bool s.done) from trDone_spec s.kn s.nu s.nx s.out)) (sa_cons (sh_refD Zz rfl (shc_cons (sh_row Sees.same rfl) (shc_cons (sh_row Sees.same rfl) (shc_cons (sh_of Sees.same rfl) (shc_cons (sh_row Sees.same rfl) (shc_nil)))))) (sa_nil)) rfl) rfl (snil (f_cond rfl ?_ ?_))
              · intro hc5; (try simp only [bs] at hc5); refine f_exit ?_; show AWs _ _ _ _ _; refine f_seq (f_region ?_); refine zq (p_move (y := .ref _ _ _) rfl Zz rfl) rfl ?_; refine zq (p_nilRef rfl Zz rfl) rfl ?_; refine zq (p_fieldRef rfl wTop3_fld124_3 wTop3_siz64 rfl Zz rfl) rfl ?_; refine zq (p_loadB (y := .row _ _) rfl wTop3_agg64 Zz rfl rfl rfl rfl) rfl ?_; refine zq (p_build rfl wTop3_plc29 wTop3_zer29 (by decide) wTop3_zch29 rfl rfl) rfl (zm4 rfl rfl rfl ?_); refine scons (r_storeS rfl wTop3_siz29 rfl rfl rfl Zz rfl Zz rfl rfl rfl rfl) (snil (f_ret ?_))
                refine ends_ret (res_eq (res2 rfl (res_row rfl rfl rfl) (res_cell (by rfl) rfl rfl wTop3_agg29 wTop3_siz29 rfl rfl)) ?_)
                rw [hgo, Sp.trGo_done hc5]
                rfl
              · intro hc5; (try simp only [bs] at hc5); refine f_skip (f_seq (f_seq (f_region ?_))); refine zq (p_fieldRef rfl wTop3_fld54_0 wTop3_siz3 rfl Zz rfl) rfl ?_; refine zq (p_loadB (y := .val _) rfl wTop3_agg3 Zz rfl rfl rfl rfl) rfl ?_; refine zq (p_neq rfl Zz Zz) rfl (snil (f_cond rfl ?_ ?_))
                · intro hc6; (try simp only [bs] at hc6)
                  exact absurd trivial hc6
                · intro hc6; (try simp only [bs] at hc6); refine f_skip (f_seq (f_region ?_)); refine zq (p_move (y := .ref _ _ _) rfl Zz rfl) rfl ?_; refine zq (p_fieldRef rfl wTop3_fld54_1 wTop3_siz22 rfl Zz rfl) rfl ?_; refine zq (p_loadB (y := .val _) rfl wTop3_agg22 Zz rfl rfl rfl rfl) rfl ?_; refine scons (r_callB rfl wTop3_isf62 (trStep_spec n ls (ls ++ st.take i) s (st.getD i []) uk un uo hTi hci hri hn (by omega) hll) ⟨_, _, rfl, Zz, ⟨_, _, rfl, Zz, rfl⟩⟩ ⟨rfl, rfl, rfl, rfl, trivial⟩ rfl rfl rfl rfl rfl rfl) (snil (f_seq (f_region ?_))); refine zq (p_move (y := .ref _ _ _) rfl Zz rfl) rfl ?_; refine zq (p_nilRef rfl Zz rfl) rfl ?_; refine zq (p_fieldRef rfl wTop3_fld124_3 wTop3_siz64 rfl Zz rfl) rfl ?_; refine zq (p_loadB (y := .row _ _) rfl wTop3_agg64 Zz rfl rfl rfl rfl) rfl ?_; refine zq (p_lenR rfl wTop3_isl64 Zz rfl) rfl ?_; refine zq (p_gtr rfl Zz Zz) rfl (snil (f_cond rfl ?_ ?_))
                  · intro hc7; (try simp only [bs] at hc7); refine f_seq (f_region ?_); refine zq (p_build rfl wTop3_plc29 wTop3_zer29 (by decide) wTop3_zch29 ⟨_, _, _, rfl, rfl, rfl, Zz, ⟨_, _, _, rfl, rfl, rfl, Zz, rfl⟩⟩ rfl) rfl (zm5 rfl rfl rfl ?_); refine scons (r_storeS rfl wTop3_siz29 rfl rfl rfl Zz rfl Zz rfl rfl rfl rfl) (snil (f_ret ?_))
                    refine ends_ret (res_eq (res2 rfl (res_tmp rfl (Sees.emp rfl 3 dCho (0, 0, 0))) (res_cell (by rfl) rfl rfl wTop3_agg29 wTop3_siz29 rfl rfl)) ?_)
                    rw [hgo, Sp.trGo_many (by omega) hc5 (by omega)]
                    rfl
                  · intro hc7; (try simp only [bs] at hc7); refine f_skip (f_nil ?_); show AWs _ _ _ _ _; refine f_region ?_; refine zq (p_add rfl Zz Zz (by omega)) rfl (zm1 rfl rfl rfl (snil ?_))
                    have hnx4 := Sp.trGo_next (st := st) (s := s) (i := i) (by omega) hc5 (by omega)
                    have hTn := (hTi.step hci hri (by omega)).1
                    refine f_back ⟨(i + 1, s.step (st.getD i []), uk + 1, un + 1, uo + ((s.step (st.getD i [])).out.length - s.out.length)), ?_, ?_, le_ofL ⟨rfl, rfl, rfl, rfl, rfl, rfl, rfl, rfl, rfl, rfl, trivial⟩ rfl⟩
                    · exact ⟨by omega, by rw [hgo, hnx4], by rw [Sp.take_getD st i [] (by omega), ← List.append_assoc]; exact hTn, by rw [Sp.step_room hTi, hkl]; omega⟩
                    · show st.length - (i + 1) < st.length - i
                      omega
            · intro hc4; (try simp only [bs] at hc4); refine f_exit ?_; show AWs _ _ _ _ _; refine f_seq (f_region ?_); refine zq (p_move (y := .ref _ _ _) rfl Zz rfl) rfl ?_; refine zq (p_nilRef rfl Zz rfl) rfl ?_; refine zq (p_fieldRef rfl wTop3_fld124_3 wTop3_siz64 rfl Zz rfl) rfl ?_; refine zq (p_loadB (y := .row _ _) rfl wTop3_agg64 Zz rfl rfl rfl rfl) rfl ?_; refine zq (p_build rfl wTop3_plc29 wTop3_zer29 (by decide) wTop3_zch29 rfl rfl) rfl (zm4 rfl rfl rfl ?_); refine scons (r_storeS rfl wTop3_siz29 rfl rfl rfl Zz rfl Zz rfl rfl rfl rfl) (snil (f_ret ?_))
              refine ends_ret (res_eq (res2 rfl (res_row rfl rfl rfl) (res_cell (by rfl) rfl rfl wTop3_agg29 wTop3_siz29 rfl rfl)) ?_)
              rw [hgo, Sp.trGo_end (by omega)]
              rfl

end Go.Um
