/- Walks of Go functions of this seat, each by its contract. No condition beyond what each theorem says. -/
import Derived.Test.YtfjafkocejoigaaGreatWTr
import Derived.Test.YtfjafkocejoigaaGreatWLst
import Derived.Test.YtfjafkocejoigaaGreatWOrd
import Derived.Test.YtfjafkocejoigaaGreatPB
import Derived.Test.YtfjafkocejoigaaGreatBD
import Derived.Test.YtfjafkocejoigaaGreatStp
import Derived.Test.YtfjafkocejoigaaGreatProg
import Derived.KernelRfl
import Derived.Test.YtfjafkocejoigaaGreatQ
set_option maxRecDepth 4000
namespace Go.Um
open Go Go.RowKit

theorem wCd_agg22 : IsAgg Go.Proofs.Tryz.prog 22 false := by unfold IsAgg; kernel_rfl
theorem wCd_agg23 : IsAgg Go.Proofs.Tryz.prog 23 false := by unfold IsAgg; kernel_rfl
theorem wCd_agg3 : IsAgg Go.Proofs.Tryz.prog 3 false := by unfold IsAgg; kernel_rfl
theorem wCd_agg90 : IsAgg Go.Proofs.Tryz.prog 90 false := by unfold IsAgg; kernel_rfl
theorem wCd_agg91 : IsAgg Go.Proofs.Tryz.prog 91 false := by unfold IsAgg; kernel_rfl
theorem wCd_byt3 : Bytes Go.Proofs.Tryz.prog 3 8 := by unfold Bytes; kernel_rfl
theorem wCd_fld106_0 : IsField Go.Proofs.Tryz.prog 106 0 0 23 := by unfold IsField; kernel_rfl
theorem wCd_fld106_1 : IsField Go.Proofs.Tryz.prog 106 1 1 22 := by unfold IsField; kernel_rfl
theorem wCd_fld106_2 : IsField Go.Proofs.Tryz.prog 106 2 2 22 := by unfold IsField; kernel_rfl
theorem wCd_fld94_3 : IsField Go.Proofs.Tryz.prog 94 3 3 91 := by unfold IsField; kernel_rfl
theorem wCd_fld94_4 : IsField Go.Proofs.Tryz.prog 94 4 4 22 := by unfold IsField; kernel_rfl
theorem wCd_fld94_5 : IsField Go.Proofs.Tryz.prog 94 5 5 3 := by unfold IsField; kernel_rfl
theorem wCd_isf77 : IsFn Go.Proofs.Tryz.prog 77 := by unfold IsFn; kernel_rfl
theorem wCd_isf78 : IsFn Go.Proofs.Tryz.prog 78 := by unfold IsFn; kernel_rfl
theorem wCd_isf79 : IsFn Go.Proofs.Tryz.prog 79 := by unfold IsFn; kernel_rfl
theorem wCd_isf81 : IsFn Go.Proofs.Tryz.prog 81 := by unfold IsFn; kernel_rfl
theorem wCd_isf85 : IsFn Go.Proofs.Tryz.prog 85 := by unfold IsFn; kernel_rfl
theorem wCd_isl22 : IsSlice Go.Proofs.Tryz.prog 22 3 := by unfold IsSlice; kernel_rfl
theorem wCd_isl23 : IsSlice Go.Proofs.Tryz.prog 23 22 := by unfold IsSlice; kernel_rfl
theorem wCd_mix : (Go.Proofs.Tryz.prog).follows .mixedOrders = true := by kernel_rfl
theorem wCd_siz22 : Size Go.Proofs.Tryz.prog 22 1 := by unfold Size; kernel_rfl
theorem wCd_siz23 : Size Go.Proofs.Tryz.prog 23 1 := by unfold Size; kernel_rfl
theorem wCd_siz3 : Size Go.Proofs.Tryz.prog 3 1 := by unfold Size; kernel_rfl
theorem wCd_siz91 : Size Go.Proofs.Tryz.prog 91 1 := by unfold Size; kernel_rfl
theorem wCd_zer3 : Zero Go.Proofs.Tryz.prog 3 (.int .i64 0) := by unfold Zero; kernel_rfl

theorem at_spec (n : Nat) (asked : List Int) (ph : Bool) (s : Sp.Sr) (x : Int) (hx : -9223372036854775808 < x ∧ x ≤ 9223372036854775807) :
    Spec Go.Proofs.Tryz.prog 78 [.val (.ptr (.agg (.cons (di n) (.cons (ints asked) (.cons (.bool ph) (.cons (.ptr (.agg (.cons (intss s.cl) (.cons (ints s.L) (.cons (ints s.W) (.cons .any .nil)))))) (.cons (ints s.lv) (.cons (di s.k) (.cons (stps (lrn s.st)) .nil))))))))), iv x] (di (Sp.at_L s.L x)) := by
  refine spec_of' Go.Proofs.Tryz.func78 rfl Go.Proofs.Tryz.ntmps78 rfl ?_
  refine f_seq (f_region (zm2 rfl rfl rfl (snil (f_seq (f_region (zm1 rfl rfl rfl ?_)))))); refine zq (p_nilPtr rfl (Sees.dptr rfl)) rfl ?_; refine zq (p_fieldAddr rfl wCd_fld94_3 wCd_siz91 (by decide) Zz rfl rfl) rfl ?_; refine zq (p_load rfl wCd_agg91 Zz rfl) rfl ?_; refine zq (p_nilPtr rfl (Sees.dptr rfl)) rfl ?_; refine zq (p_fieldAddr rfl wCd_fld106_1 wCd_siz22 (by decide) Zz rfl rfl) rfl ?_; refine zq (p_load rfl wCd_agg22 Zz rfl) rfl (zm1 rfl rfl rfl ?_); refine zq (p_neg rfl Zz (by omega)) rfl ?_; refine zc (c_call rfl wCd_isf85 ⟨_, _, rfl, Zz, rfl, ⟨_, _, rfl, Zz, rfl, rfl⟩⟩ (idxI_spec s.L (-x))) rfl (zm2 rfl rfl rfl (snil (f_ret ?_)))
  refine ends_ret (res_eq (res1 rfl (res_tmp rfl (Sees.of rfl))) ?_)
  rfl

theorem an1_spec (l x : Int) :
    Spec Go.Proofs.Tryz.prog 80 [iv l, .ptr (di x)] (D.bool (decide (l = x))) := by
  refine spec_of' Go.Proofs.Tryz.func80 rfl Go.Proofs.Tryz.ntmps80 rfl ?_
  refine f_seq (f_region (zm2 rfl rfl rfl (snil (f_seq (f_region (zm1 rfl rfl rfl ?_)))))); refine zq (p_load rfl wCd_agg3 Zz rfl) rfl ?_; refine zq (p_eql rfl Zz Zz) rfl (zm2 rfl rfl rfl (snil (f_ret ?_)))
  refine ends_ret (res_eq (res1 rfl (res_tmp rfl (Sees.of rfl))) ?_)
  rfl

theorem an2_spec (n : Nat) (asked : List Int) (ph : Bool) (s : Sp.Sr) (l : Int) (hI : Sp.Inv n s) (hn : n ≤ 1000) (hl : -l ∈ s.L) :
    Spec Go.Proofs.Tryz.prog 82 [iv l, .ptr (.ptr (.agg (.cons (di n) (.cons (ints asked) (.cons (.bool ph) (.cons (.ptr (.agg (.cons (intss s.cl) (.cons (ints s.L) (.cons (ints s.W) (.cons .any .nil)))))) (.cons (ints s.lv) (.cons (di s.k) (.cons (stps (lrn s.st)) .nil)))))))))] (D.bool (decide (Sp.lvl s l = 0))) := by
  refine spec_of' Go.Proofs.Tryz.func82 rfl Go.Proofs.Tryz.ntmps82 rfl ?_
  refine f_seq ?_
  have hat := hI.at_ hl
  have hgd := hI.gd _ hl
  refine f_region (zm2 rfl rfl rfl (snil (f_seq ?_))); refine f_draw wCd_mix (by kernel_rfl) ?_; refine yq (p_load rfl wCd_agg90 Zz rfl) rfl ?_; refine yq (p_nilPtr rfl (Sees.dptr rfl)) rfl ?_; refine yq (p_fieldAddr rfl wCd_fld94_4 wCd_siz22 (by decide) Zz rfl rfl) rfl ?_; refine yq (p_load rfl wCd_agg22 Zz rfl) rfl ?_; refine yq (p_load rfl wCd_agg90 Zz rfl) rfl (zd1 rfl rfl rfl ?_); refine yc (c_call rfl wCd_isf78 ⟨_, _, rfl, Zz, rfl, ⟨_, _, rfl, Zz, rfl, rfl⟩⟩ (at_spec n asked ph s l (by omega))) rfl ?_; refine yq ((by first | exact p_indexN rfl wCd_isl22 wCd_siz3 Zz Zz (by omega) | exact p_index rfl wCd_isl22 wCd_siz3 Zz Zz (by omega) (by omega))) rfl ?_; refine yq (p_load rfl wCd_agg3 Zz rfl) rfl ?_; refine yq (p_eql rfl Zz Zz) rfl (zd2 rfl rfl rfl ?_); refine dnil (by kernel_rfl) (f_ret ?_)
  refine ends_ret (res_eq (res1 rfl (res_tmp rfl (Sees.of rfl))) ?_)
  rfl

set_option maxHeartbeats 1000000 in
theorem analysed_spec (n : Nat) (asked : List Int) (ph : Bool) (s : Sp.Sr) (bad : Int) (hI : Sp.Inv n s) (hn : n ≤ 1000) (hb0 : 0 ≤ bad) (hb : bad.toNat < s.cl.length) (hf : ∀ x ∈ (s.cl.getD bad.toNat []), -x ∈ s.L) :
    SpecF Go.Proofs.Tryz.prog 38 [.val (.ptr (.agg (.cons (di n) (.cons (ints asked) (.cons (.bool ph) (.cons (.ptr (.agg (.cons (intss s.cl) (.cons (ints s.L) (.cons (ints s.W) (.cons .any .nil)))))) (.cons (ints s.lv) (.cons (di s.k) (.cons (stps (lrn s.st)) .nil))))))))), iv bad] (two (ints (Sp.ana s bad).1) (di (Sp.ana s bad).2)) := by
  refine specF_of' Go.Proofs.Tryz.func38 rfl Go.Proofs.Tryz.ntmps38 rfl ?_
  refine f_seq (f_region ?_); refine scons (r_box (ob := 10002) rfl Zz rfl rfl rfl rfl rfl rfl) (zm5 rfl rfl rfl (zm2 rfl rfl rfl (snil (f_seq ?_))))
  have hlow0 := Sp.Low.bad hI (Sp.getD_mem s.cl bad.toNat [] hb) hf
  have hc0l := hlow0.len hI
  refine f_le (GLe.le (g_seal (k := 2) (o1 := 10002) rfl rfl rfl rfl (shc_one rfl (sh_of (Sees.of rfl) rfl)))) ?_ (by simp)
  refine f_region ?_; refine zq (p_load rfl wCd_agg90 Zz rfl) rfl ?_; refine zq (p_nilPtr rfl (Sees.dptr rfl)) rfl ?_; refine zq (p_fieldAddr rfl wCd_fld94_3 wCd_siz91 (by decide) Zz rfl rfl) rfl ?_; refine zq (p_load rfl wCd_agg91 Zz rfl) rfl ?_; refine zq (p_nilPtr rfl (Sees.dptr rfl)) rfl ?_; refine zq (p_fieldAddr rfl wCd_fld106_0 wCd_siz23 (by decide) Zz rfl rfl) rfl ?_; refine zq (p_load rfl wCd_agg23 Zz rfl) rfl (zm1 rfl rfl rfl ?_); refine zq ((by first | exact p_indexN rfl wCd_isl23 wCd_siz22 Zz Zz (by omega) | exact p_index rfl wCd_isl23 wCd_siz22 Zz Zz (by omega) (by omega))) rfl ?_; refine zq (p_load rfl wCd_agg22 Zz rfl) rfl ?_; refine scons (r_callS (q := false) (ob := 30000) 0 rfl wCd_isf77 (cloneI_spec (s.cl.getD bad.toNat []) (by omega)) (sa_cons (sh_of Zz rfl) (sa_nil)) (.inl rfl) rfl rfl rfl rfl rfl) (zm4 rfl rfl rfl (snil (f_seq (f_block ?_))))
  refine f_loop (α := Nat × List Int × Nat) (fun (m, c, u) => (Sp.anaF s s.L.length (s.cl.getD bad.toNat [])) = Sp.anaF s m c ∧ Sp.Low n s m c) (fun (m, c, u) => [(6, .row 30000 u), (30000, .arr u 3 1 8 di 0 c), (2, .ptr (.ptr (.agg (.cons (di n) (.cons (ints asked) (.cons (.bool ph) (.cons (.ptr (.agg (.cons (intss s.cl) (.cons (ints s.L) (.cons (ints s.W) (.cons .any .nil)))))) (.cons (ints s.lv) (.cons (di s.k) (.cons (stps (lrn s.st)) .nil)))))))))), (4, .emp), (5, iv 0)]) (fun (m, c, u) => m) (s.L.length, (s.cl.getD bad.toNat []), 0) ?_ ?_ ?_
  · exact ⟨rfl, hlow0⟩
  · exact le_ofL ⟨rfl, rfl, rfl, rfl, rfl, trivial⟩ rfl
  · rintro ⟨m, c, u⟩ ⟨hfx, hlow⟩
    have hcl := hlow.len hI
    refine f_block (f_seq (f_region ?_)); refine scons (r_alloc (ob := 10007) rfl wCd_zer3 rfl rfl rfl rfl rfl rfl) ?_; refine scons (r_store rfl wCd_siz3 rfl rfl rfl Zz rfl rfl Zz (one_val rfl)) (zm2 rfl rfl rfl (snil (f_seq (f_seq (f_region (zm3 rfl rfl rfl ?_)))))); refine zq (p_lenR rfl wCd_isl22 Zz rfl) rfl (zm1 rfl rfl rfl (snil (f_block ?_)))
    refine f_loop (α := Nat) (fun i => i ≤ c.length) (fun i => [(30, iv i), (8, iv (Sp.scT s c i).2), (7, .ref 10007 0 0), (10007, .box 0 (.ccons (iv (Sp.scT s c i).1) .cnil)), (6, .row 30000 u), (28, .row 30000 u), (29, iv c.length), (30000, .arr u 3 1 8 di 0 c), (2, .ptr (.ptr (.agg (.cons (di n) (.cons (ints asked) (.cons (.bool ph) (.cons (.ptr (.agg (.cons (intss s.cl) (.cons (ints s.L) (.cons (ints s.W) (.cons .any .nil)))))) (.cons (ints s.lv) (.cons (di s.k) (.cons (stps (lrn s.st)) .nil)))))))))), (4, .emp), (5, iv 0)]) (fun i => c.length - i) 0 ?_ ?_ ?_
    · exact Nat.zero_le _
    · exact le_ofL ⟨rfl, rfl, rfl, rfl, rfl, rfl, rfl, rfl, rfl, rfl, rfl, trivial⟩ rfl
    · rintro i hi
      refine f_seq (f_region ?_); refine zq (p_lss rfl Zz Zz) rfl (snil (f_seq (f_cond rfl ?_ ?_)))
      · intro hc1; (try simp only [bs] at hc1); refine f_skip (f_seq (f_block (f_seq (f_region ?_)))); refine zq ((by first | exact p_indexR rfl wCd_isl22 wCd_siz3 Zz rfl Zz (by omega) | exact p_indexRZ rfl wCd_isl22 wCd_siz3 Zz rfl Zz (by omega) (by omega))) rfl ?_; refine zq (p_loadE rfl wCd_agg3 Zz rfl (by omega) (fun _ => rfl)) rfl (zm2 rfl rfl rfl (snil (f_seq ?_)))
        have hcm := Sp.getD_mem c i 0 (by omega)
        have hat := hI.at_ (hlow.2 _ hcm).1
        have hgd := hI.gd _ (hlow.2 _ hcm).1
        have hsb := Sp.scT_bnd s c i
        have hls : -1000 ≤ (Sp.scT s c i).1 ∧ (Sp.scT s c i).1 ≤ 1000 := by
          rcases hsb.2.2 with h | h
          · omega
          · have := hlow.good hI _ h; omega
        refine f_draw wCd_mix (by kernel_rfl) ?_; refine yq (p_load rfl wCd_agg90 Zz rfl) rfl ?_; refine yq (p_nilPtr rfl (Sees.dptr rfl)) rfl ?_; refine yq (p_fieldAddr rfl wCd_fld94_4 wCd_siz22 (by decide) Zz rfl rfl) rfl ?_; refine yq (p_load rfl wCd_agg22 Zz rfl) rfl ?_; refine yq (p_load rfl wCd_agg90 Zz rfl) rfl (zd1 rfl rfl rfl ?_); refine yc (c_call rfl wCd_isf78 ⟨_, _, rfl, Zz, rfl, ⟨_, _, rfl, Zz, rfl, rfl⟩⟩ (at_spec n asked ph s (c.getD i 0) (by omega))) rfl ?_; refine yq ((by first | exact p_indexN rfl wCd_isl22 wCd_siz3 Zz Zz (by omega) | exact p_index rfl wCd_isl22 wCd_siz3 Zz Zz (by omega) (by omega))) rfl ?_; refine yq (p_load rfl wCd_agg3 Zz rfl) rfl ?_; refine yq (p_load rfl wCd_agg90 Zz rfl) rfl ?_; refine yq (p_nilPtr rfl (Sees.dptr rfl)) rfl ?_; refine yq (p_fieldAddr rfl wCd_fld94_5 wCd_siz3 (by decide) Zz rfl rfl) rfl ?_; refine yq (p_load rfl wCd_agg3 Zz rfl) rfl ?_; refine yq (p_eql rfl Zz Zz) rfl ?_; refine dnil (by kernel_rfl) (f_cond rfl ?_ ?_)
        · intro hc2; (try simp only [bs] at hc2); refine f_seq (f_region (zm1 rfl rfl rfl ?_)); refine zq (p_add rfl Zz Zz (by omega)) rfl (zm2 rfl rfl rfl (snil (f_seq ?_))); refine f_draw wCd_mix (by kernel_rfl) ?_; refine yq (p_loadB (y := .val _) rfl wCd_agg3 Zz rfl rfl rfl rfl) rfl ?_; refine yq (p_eql rfl Zz Zz) rfl (zd1 rfl rfl rfl ?_); refine dcons (CStep.guard rfl rfl rfl (fun hg0 => PStep.c (p_load rfl wCd_agg90 Zz rfl)) rfl rfl rfl rfl rfl) ?_; refine dcons (CStep.guard rfl rfl rfl (fun hg0 => PStep.c (p_move (y := .val _) rfl Zz rfl)) rfl rfl rfl rfl rfl) ?_; refine dcons (CStep.guard rfl rfl rfl (fun hg0 => by have hp0 := hg0; (try simp only [bs] at hp0); exact c_call rfl wCd_isf78 ⟨_, _, rfl, (Sees.gv' rfl hg0), rfl, ⟨_, _, rfl, (Sees.gv' rfl hg0), rfl, rfl⟩⟩ (at_spec n asked ph s (c.getD i 0) (by omega))) rfl rfl rfl rfl rfl) ?_; refine dcons (CStep.guard rfl rfl rfl (fun hg0 => PStep.c (p_load rfl wCd_agg90 Zz rfl)) rfl rfl rfl rfl rfl) ?_; refine dcons (CStep.guard rfl rfl rfl (fun hg0 => PStep.c (p_loadB (y := .val _) rfl wCd_agg3 Zz rfl rfl rfl rfl)) rfl rfl rfl rfl rfl) ?_; refine dcons (CStep.guard rfl rfl rfl (fun hg0 => by have hp0 := hg0; (try simp only [bs] at hp0); exact c_call rfl wCd_isf78 ⟨_, _, rfl, (Sees.gv' rfl hg0), rfl, ⟨_, _, rfl, (Sees.gv' rfl hg0), rfl, rfl⟩⟩ (at_spec n asked ph s (Sp.scT s c i).1 (by omega))) rfl rfl rfl rfl rfl) ?_; refine dcons (CStep.guard rfl rfl rfl (fun hg0 => PStep.c (p_gtr rfl (Sees.gv' rfl hg0) (Sees.gv' rfl hg0))) rfl rfl rfl rfl rfl) ?_; refine yq (p_or rfl Zz Zz (fun h => Sees.gv' rfl (beq_of_eq h))) rfl ?_; refine dnil (by kernel_rfl) (f_cond rfl ?_ ?_)
          · intro hc3; (try simp only [bs] at hc3); refine f_region (zm1 rfl rfl rfl ?_); refine scons (r_store rfl wCd_siz3 rfl rfl rfl Zz rfl rfl Zz (one_val rfl)) (snil (f_nil ?_)); show AWs _ _ _ _ _; refine f_region ?_; refine zq (p_add rfl Zz Zz (by omega)) rfl (zm1 rfl rfl rfl (snil ?_))
            refine f_back ⟨i + 1, ?_, ?_, le_ofL ⟨rfl, (by rw [Sp.scT_step (by omega), Sp.scanS, if_pos (show Sp.lvl s _ = s.k from hc2)]; rfl), rfl, (by rw [Sp.scT_step (by omega), Sp.scanS, if_pos (show Sp.lvl s _ = s.k from hc2), if_pos hc3]; rfl), rfl, rfl, rfl, rfl, rfl, rfl, rfl, trivial⟩ rfl⟩
            · omega
            · omega
          · intro hc3; (try simp only [bs] at hc3); refine f_skip (f_nil ?_); show AWs _ _ _ _ _; refine f_region ?_; refine zq (p_add rfl Zz Zz (by omega)) rfl (zm1 rfl rfl rfl (snil ?_))
            refine f_back ⟨i + 1, ?_, ?_, le_ofL ⟨rfl, (by rw [Sp.scT_step (by omega), Sp.scanS, if_pos (show Sp.lvl s _ = s.k from hc2)]; rfl), rfl, (by rw [Sp.scT_step (by omega), Sp.scanS, if_pos (show Sp.lvl s _ = s.k from hc2), if_neg (fun h => by rcases h with h | h; exact hc3.1 h; exact absurd h (by omega))]; rfl), rfl, rfl, rfl, rfl, rfl, rfl, rfl, trivial⟩ rfl⟩
            · omega
            · omega
        · intro hc2; (try simp only [bs] at hc2); refine f_skip (f_nil ?_); show AWs _ _ _ _ _; refine f_region ?_; refine zq (p_add rfl Zz Zz (by omega)) rfl (zm1 rfl rfl rfl (snil ?_))
          refine f_back ⟨i + 1, ?_, ?_, le_ofL ⟨rfl, (by rw [Sp.scT_step (by omega), Sp.scanS, if_neg (show ¬ Sp.lvl s _ = s.k from hc2)]; rfl), rfl, (by rw [Sp.scT_step (by omega), Sp.scanS, if_neg (show ¬ Sp.lvl s _ = s.k from hc2)]; rfl), rfl, rfl, rfl, rfl, rfl, rfl, rfl, trivial⟩ rfl⟩
          · omega
          · omega
      · intro hc1; (try simp only [bs] at hc1)
        have hsc : Sp.scT s c i = Sp.scan s c := Sp.scT_all (by omega)
        rw [hsc]
        refine f_exit ?_; show AWs _ _ _ _ _; refine f_seq (f_seq (f_region (zm1 rfl rfl rfl ?_))); refine zq (p_lss rfl Zz Zz) rfl (snil (f_cond rfl ?_ ?_))
        · intro hc4; (try simp only [bs] at hc4); refine f_exit ?_; show AWs _ _ _ _ _; refine f_seq (f_region (zm3 rfl rfl rfl ?_)); refine zq (p_makeFunc (l := [.tmp 2]) rfl) rfl ?_; refine scons (r_callV rfl wCd_isf79 ((delF_spec u c (fun l => decide (Sp.lvl s l = 0)) (fun l => -l ∈ s.L) (fun z hz => (hlow.2 z hz).1) (by omega)).clo1 (by unfold IsFn; kernel_rfl) (fun _ => rfl) (fun _ => rfl) (fun z => an2_spec n asked ph s z.1 hI hn z.2)) ⟨_, _, rfl, Zz, ⟨_, _, rfl, Zz, rfl⟩⟩ ⟨rfl, trivial⟩ rfl (trivial) rfl rfl rfl rfl rfl rfl rfl) ?_; refine zm4 rfl rfl rfl (snil (f_seq (f_region (zm2 rfl rfl rfl (snil (f_seq (f_seq (f_region (zm3 rfl rfl rfl ?_))))))))); refine zq (p_lenR rfl wCd_isl22 Zz rfl) rfl (zm1 rfl rfl rfl (snil (f_block ?_)))
          refine f_loop (α := Nat) (fun i => i ≤ (Sp.cut0 s c).length) (fun i => [(114, iv i), (13, iv (Sp.topT s (Sp.cut0 s c) i)), (6, .row 30000 (u + 1)), (112, .row 30000 (u + 1)), (113, iv (Sp.cut0 s c).length), (30000, .arr (u + 1) 3 1 8 di 0 (Sp.cut0 s c)), (2, .ptr (.ptr (.agg (.cons (di n) (.cons (ints asked) (.cons (.bool ph) (.cons (.ptr (.agg (.cons (intss s.cl) (.cons (ints s.L) (.cons (ints s.W) (.cons .any .nil)))))) (.cons (ints s.lv) (.cons (di s.k) (.cons (stps (lrn s.st)) .nil)))))))))), (4, .emp), (5, iv 0)]) (fun i => (Sp.cut0 s c).length - i) 0 ?_ ?_ ?_
          · exact Nat.zero_le _
          · exact le_ofL ⟨rfl, rfl, rfl, rfl, rfl, rfl, rfl, rfl, rfl, trivial⟩ rfl
          · rintro i hi
            refine f_seq (f_region ?_); refine zq (p_lss rfl Zz Zz) rfl (snil (f_seq (f_cond rfl ?_ ?_)))
            · intro hc5; (try simp only [bs] at hc5); refine f_skip (f_seq (f_block (f_seq (f_region ?_)))); refine zq ((by first | exact p_indexR rfl wCd_isl22 wCd_siz3 Zz rfl Zz (by omega) | exact p_indexRZ rfl wCd_isl22 wCd_siz3 Zz rfl Zz (by omega) (by omega))) rfl ?_; refine zq (p_loadE rfl wCd_agg3 Zz rfl (by omega) (fun _ => rfl)) rfl (zm2 rfl rfl rfl (snil (f_seq ?_)))
              have hcut : (Sp.cut0 s c).length ≤ c.length := List.length_filter_le _ _
              have hcm := List.mem_filter.1 (Sp.getD_mem (Sp.cut0 s c) i 0 (by omega))
              have hat := hI.at_ (hlow.2 _ hcm.1).1
              have hgd := hI.gd _ (hlow.2 _ hcm.1).1
              refine f_draw wCd_mix (by kernel_rfl) ?_; refine yq (p_load rfl wCd_agg90 Zz rfl) rfl ?_; refine yq (p_nilPtr rfl (Sees.dptr rfl)) rfl ?_; refine yq (p_fieldAddr rfl wCd_fld94_4 wCd_siz22 (by decide) Zz rfl rfl) rfl ?_; refine yq (p_load rfl wCd_agg22 Zz rfl) rfl ?_; refine yq (p_load rfl wCd_agg90 Zz rfl) rfl (zd1 rfl rfl rfl ?_); refine yc (c_call rfl wCd_isf78 ⟨_, _, rfl, Zz, rfl, ⟨_, _, rfl, Zz, rfl, rfl⟩⟩ (at_spec n asked ph s ((Sp.cut0 s c).getD i 0) (by omega))) rfl ?_; refine yq ((by first | exact p_indexN rfl wCd_isl22 wCd_siz3 Zz Zz (by omega) | exact p_index rfl wCd_isl22 wCd_siz3 Zz Zz (by omega) (by omega))) rfl ?_; refine yq (p_load rfl wCd_agg3 Zz rfl) rfl (zd2 rfl rfl rfl ?_); refine dnil (by kernel_rfl) (f_seq (f_region (zm1 rfl rfl rfl ?_))); refine zq (p_load rfl wCd_agg90 Zz rfl) rfl ?_; refine zq (p_nilPtr rfl (Sees.dptr rfl)) rfl ?_; refine zq (p_fieldAddr rfl wCd_fld94_5 wCd_siz3 (by decide) Zz rfl rfl) rfl ?_; refine zq (p_load rfl wCd_agg3 Zz rfl) rfl ?_; refine zq (p_lss rfl Zz Zz) rfl (snil (f_cond rfl ?_ ?_))
              · intro hc6; (try simp only [bs] at hc6); refine f_region (zm1 rfl rfl rfl (zm1 rfl rfl rfl ?_)); refine zq (p_max rfl Zz Zz) rfl (zm2 rfl rfl rfl (snil (f_nil ?_))); show AWs _ _ _ _ _; refine f_region ?_; refine zq (p_add rfl Zz Zz (by omega)) rfl (zm1 rfl rfl rfl (snil ?_))
                refine f_back ⟨i + 1, ?_, ?_, le_ofL ⟨rfl, (by rw [Sp.topT_step (by omega), Sp.topL, if_pos (show Sp.lvl s _ < s.k from hc6)]; rfl), rfl, rfl, rfl, rfl, rfl, rfl, rfl, trivial⟩ rfl⟩
                · omega
                · omega
              · intro hc6; (try simp only [bs] at hc6); refine f_skip (f_nil ?_); show AWs _ _ _ _ _; refine f_region ?_; refine zq (p_add rfl Zz Zz (by omega)) rfl (zm1 rfl rfl rfl (snil ?_))
                refine f_back ⟨i + 1, ?_, ?_, le_ofL ⟨rfl, (by rw [Sp.topT_step (by omega), Sp.topL, if_neg (show ¬ Sp.lvl s _ < s.k from fun h => by have h6 : s.k ≤ Sp.lvl s _ := hc6; omega)]; rfl), rfl, rfl, rfl, rfl, rfl, rfl, rfl, trivial⟩ rfl⟩
                · omega
                · omega
            · intro hc5; (try simp only [bs] at hc5); refine f_exit ?_; show AWs _ _ _ _ _; refine f_seq (f_region (zm3 rfl rfl rfl (zm1 rfl rfl rfl (zm4 rfl rfl rfl (zm2 rfl rfl rfl (snil (f_ret ?_)))))))
              refine endsF_ret (resF_eq (resF2 rfl (resF_row rfl rfl rfl (fun _ => rfl)) (resF_flat rfl (Sees.of rfl) rfl)) ?_)
              rw [Sp.ana, hfx, Sp.ana_stop hc4, Sp.topT_all (by omega)]
        · intro hc4; (try simp only [bs] at hc4); refine f_skip (f_seq ?_)
          refine f_le (GLe.le (g_seal (k := 7) (o1 := 10007) rfl rfl rfl rfl (shc_one rfl (sh_of (Sees.of rfl) rfl)))) ?_ (by simp)
          refine f_region (zm3 rfl rfl rfl ?_); refine zq (p_makeFunc (l := [.tmp 7]) rfl) rfl ?_; refine scons (r_callV rfl wCd_isf79 ((delF_spec u c (fun l => decide (l = (Sp.scan s c).1)) (fun _ => True) (fun _ _ => trivial) (by omega)).clo1 (by unfold IsFn; kernel_rfl) (fun _ => rfl) (fun _ => rfl) (fun z => an1_spec z.1 (Sp.scan s c).1)) ⟨_, _, rfl, Zz, ⟨_, _, rfl, Zz, rfl⟩⟩ ⟨rfl, trivial⟩ rfl (trivial) rfl rfl rfl rfl rfl rfl rfl) ?_; refine zm4 rfl rfl rfl (snil (f_seq ?_))
          obtain ⟨w1, w2, w3, w4⟩ := Sp.top_why hI hlow (by omega)
          have htop := Sp.scan_top (s := s) (c := c) (fun l hl => (hlow.good hI l hl).1) (by omega)
          have hat := hI.at_ (hlow.2 _ htop.1).1
          have hgd := hlow.good hI _ htop.1
          have hwl : (Sp.why s (Sp.scan s c).1).length ≤ 2 * n := Sp.nodup_good (hI.cl _ (Sp.getD_mem s.cl _ [] w2)).2.1 (hI.cl _ (Sp.getD_mem s.cl _ [] w2)).1
          refine f_draw wCd_mix (by kernel_rfl) ?_; refine yq (p_load rfl wCd_agg90 Zz rfl) rfl ?_; refine yq (p_nilPtr rfl (Sees.dptr rfl)) rfl ?_; refine yq (p_fieldAddr rfl wCd_fld94_3 wCd_siz91 (by decide) Zz rfl rfl) rfl ?_; refine yq (p_load rfl wCd_agg91 Zz rfl) rfl ?_; refine yq (p_nilPtr rfl (Sees.dptr rfl)) rfl ?_; refine yq (p_fieldAddr rfl wCd_fld106_0 wCd_siz23 (by decide) Zz rfl rfl) rfl ?_; refine yq (p_load rfl wCd_agg23 Zz rfl) rfl ?_; refine yq (p_load rfl wCd_agg90 Zz rfl) rfl ?_; refine yq (p_nilPtr rfl (Sees.dptr rfl)) rfl ?_; refine yq (p_fieldAddr rfl wCd_fld94_3 wCd_siz91 (by decide) Zz rfl rfl) rfl ?_; refine yq (p_load rfl wCd_agg91 Zz rfl) rfl ?_; refine yq (p_nilPtr rfl (Sees.dptr rfl)) rfl ?_; refine yq (p_fieldAddr rfl wCd_fld106_2 wCd_siz22 (by decide) Zz rfl rfl) rfl ?_; refine yq (p_load rfl wCd_agg22 Zz rfl) rfl ?_; refine yq (p_load rfl wCd_agg90 Zz rfl) rfl ?_; refine yq (p_load rfl wCd_agg3 Zz rfl) rfl ?_; refine yc (c_call rfl wCd_isf78 ⟨_, _, rfl, Zz, rfl, ⟨_, _, rfl, Zz, rfl, rfl⟩⟩ (at_spec n asked ph s (Sp.scan s c).1 (by omega))) rfl ?_; refine yq ((by first | exact p_indexN rfl wCd_isl22 wCd_siz3 Zz Zz (by omega) | exact p_index rfl wCd_isl22 wCd_siz3 Zz Zz (by omega) (by omega))) rfl ?_; refine yq (p_load rfl wCd_agg3 Zz rfl) rfl ?_; refine yq ((by first | exact p_indexN rfl wCd_isl23 wCd_siz22 Zz Zz (by omega) | exact p_index rfl wCd_isl23 wCd_siz22 Zz Zz (by omega) (by omega))) rfl ?_; refine yq (p_load rfl wCd_agg22 Zz rfl) rfl ?_; refine yq (p_len rfl wCd_isl22 Zz) rfl (zd1 rfl rfl rfl ?_); refine dnil (by kernel_rfl) (f_block ?_)
          refine f_loop (α := Nat × Nat) (fun (j, v) => j ≤ (Sp.why s (Sp.scan s c).1).length) (fun (j, v) => [(90, iv j), (7, .ptr (di (Sp.scan s c).1)), (88, .val (ints (Sp.why s (Sp.scan s c).1))), (89, iv (Sp.why s (Sp.scan s c).1).length), (6, .row 30000 v), (30000, .arr v 3 1 8 di 0 (Sp.resT c (Sp.why s (Sp.scan s c).1) (Sp.scan s c).1 j)), (2, .ptr (.ptr (.agg (.cons (di n) (.cons (ints asked) (.cons (.bool ph) (.cons (.ptr (.agg (.cons (intss s.cl) (.cons (ints s.L) (.cons (ints s.W) (.cons .any .nil)))))) (.cons (ints s.lv) (.cons (di s.k) (.cons (stps (lrn s.st)) .nil)))))))))), (4, .emp), (5, iv 0)]) (fun (j, v) => (Sp.why s (Sp.scan s c).1).length - j) (0, u + 1) ?_ ?_ ?_
          · exact Nat.zero_le _
          · exact le_ofL ⟨rfl, rfl, rfl, rfl, rfl, rfl, rfl, rfl, rfl, trivial⟩ rfl
          · rintro ⟨j, v⟩ hj
            refine f_seq (f_region ?_); refine zq (p_lss rfl Zz Zz) rfl (snil (f_seq (f_cond rfl ?_ ?_)))
            · intro hc7; (try simp only [bs] at hc7); refine f_skip (f_seq (f_block (f_seq (f_region ?_)))); refine zq ((by first | exact p_indexN rfl wCd_isl22 wCd_siz3 Zz Zz (by omega) | exact p_index rfl wCd_isl22 wCd_siz3 Zz Zz (by omega) (by omega))) rfl ?_; refine zq (p_load rfl wCd_agg3 Zz rfl) rfl (zm2 rfl rfl rfl (snil (f_seq (f_region (zm1 rfl rfl rfl ?_))))); refine zq (p_load rfl wCd_agg3 Zz rfl) rfl ?_; refine zq (p_neg rfl Zz (by omega)) rfl ?_; refine zq (p_neq rfl Zz Zz) rfl (zm1 rfl rfl rfl ?_); refine scons (CStep.guard rfl rfl rfl (fun hg0 => PStep.c (p_move (y := .row _ _) rfl Zz rfl)) rfl rfl rfl rfl rfl) ?_; refine scons (CStep.guard rfl rfl rfl (fun hg0 => PStep.c (p_move (y := .val _) rfl Zz rfl)) rfl rfl rfl rfl rfl) ?_; refine scons (CStep.guard rfl rfl rfl (fun hg0 => c_callS (q := true) rfl wCd_isf81 (hasI_spec _ _) (sa_cons (sh_row (Sees.gv' rfl hg0) rfl) (sa_cons (sh_of (Sees.gv' rfl hg0) rfl) (sa_nil))) rfl) rfl rfl rfl rfl rfl) ?_; refine scons (CStep.guard rfl rfl rfl (fun hg0 => PStep.c (p_not rfl (Sees.gv' rfl hg0))) rfl rfl rfl rfl rfl) ?_; refine zq (p_and rfl Zz (fun h => Sees.gv' rfl (beq_of_eq h)) Zz) rfl (snil (f_cond rfl ?_ ?_))
              · intro hc8; (try simp only [bs] at hc8)
                have hrl := Sp.resT_len c (Sp.why s (Sp.scan s c).1) (Sp.scan s c).1 j
                refine f_region (zm3 rfl rfl rfl (zm1 rfl rfl rfl ?_)); refine zc (c_buildSlice (f := di) (za := 0) (xs := [.tmp 105]) rfl rfl wCd_isl22 wCd_siz3 wCd_zer3 rfl rfl ⟨_, _, rfl, Zz, rfl, rfl, rfl⟩) rfl ?_; refine scons (r_appendR (ob := 30000) rfl wCd_isl22 wCd_siz3 wCd_byt3 wCd_zer3 rfl rfl Zz rfl Zz (by simp only [List.length_cons, List.length_nil, List.length_append]; omega) (by simp only [List.length_cons, List.length_nil, List.length_append]; omega) rfl rfl rfl rfl rfl) ?_; refine zm4 rfl rfl rfl (snil (f_nil ?_)); show AWs _ _ _ _ _; refine f_region ?_; refine zq (p_add rfl Zz Zz (by omega)) rfl (zm1 rfl rfl rfl (snil ?_))
                refine f_back ⟨(j + 1, v + 1), ?_, ?_, le_ofL ⟨rfl, rfl, rfl, rfl, rfl, (by rw [Sp.resT_step (by omega), Sp.addN, if_pos hc8]; rfl), rfl, rfl, rfl, trivial⟩ rfl⟩
                · show j + 1 ≤ _
                  omega
                · show _ - (j + 1) < _ - j
                  omega
              · intro hc8; (try simp only [bs] at hc8); refine f_skip (f_nil ?_); show AWs _ _ _ _ _; refine f_region ?_; refine zq (p_add rfl Zz Zz (by omega)) rfl (zm1 rfl rfl rfl (snil ?_))
                refine f_back ⟨(j + 1, v), ?_, ?_, le_ofL ⟨rfl, rfl, rfl, rfl, rfl, (by rw [Sp.resT_step (by omega), Sp.addN, if_neg (fun h => by rcases hc8 with h8 | h8; exact h.1 h8; exact h.2 h8)]; rfl), rfl, rfl, rfl, trivial⟩ rfl⟩
                · show j + 1 ≤ _
                  omega
                · show _ - (j + 1) < _ - j
                  omega
            · intro hc7; (try simp only [bs] at hc7); refine f_exit ?_; show AWs _ _ _ _ _; refine f_nil ?_; show AWs _ _ _ _ _
              refine f_back ⟨(m - 1, Sp.reso c (Sp.why s (Sp.scan s c).1) (Sp.scan s c).1, v), ?_, ?_, le_ofL ⟨rfl, (by rw [← Sp.resT_all (c := c) (w := (Sp.why s (Sp.scan s c).1)) (x := (Sp.scan s c).1) (j := j) (by omega)]; rfl), rfl, rfl, rfl, trivial⟩ rfl⟩
              · obtain ⟨q, rfl⟩ : ∃ q, m = q + 1 := ⟨m - 1, by
                  have := (hlow.2 _ htop.1).2
                  omega⟩
                exact ⟨by rw [hfx, Sp.ana_go (by omega)]; rfl, hlow.step hI (by omega)⟩
              · have := (hlow.2 _ htop.1).2
                show m - 1 < m
                omega

end Go.Um
