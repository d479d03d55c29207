/- Walks of Go functions of this seat, each by its contract. No condition beyond what each theorem says. -/
import Derived.Test.YtfjafkocejoigaaGreatWCnf
import Derived.Test.YtfjafkocejoigaaGreatPB
import Derived.Test.YtfjafkocejoigaaGreatPA
import Derived.Test.YtfjafkocejoigaaGreatBD
import Derived.Test.YtfjafkocejoigaaGreatProg
import Derived.KernelRfl
import Derived.Test.YtfjafkocejoigaaGreatQ
set_option maxRecDepth 4000
namespace Go.Um
open Go Go.RowKit

theorem wLst_agg3 : IsAgg Go.Proofs.Tryz.prog 3 false := by unfold IsAgg; kernel_rfl
theorem wLst_isf118 : IsFn Go.Proofs.Tryz.prog 118 := by unfold IsFn; kernel_rfl
theorem wLst_isf85 : IsFn Go.Proofs.Tryz.prog 85 := by unfold IsFn; kernel_rfl
theorem wLst_isl22 : IsSlice Go.Proofs.Tryz.prog 22 3 := by unfold IsSlice; kernel_rfl
theorem wLst_isl23 : IsSlice Go.Proofs.Tryz.prog 23 22 := by unfold IsSlice; kernel_rfl
theorem wLst_siz22 : Size Go.Proofs.Tryz.prog 22 1 := by unfold Size; kernel_rfl
theorem wLst_siz3 : Size Go.Proofs.Tryz.prog 3 1 := by unfold Size; kernel_rfl
theorem wLst_zer3 : Zero Go.Proofs.Tryz.prog 3 (.int .i64 0) := by unfold Zero; kernel_rfl

theorem idxI_spec (l : List Int) (x : Int) :
    Spec Go.Proofs.Tryz.prog 85 [.val (ints l), iv x] (di (Sp.place l x)) := by
  refine spec_of' Go.Proofs.Tryz.func85 rfl Go.Proofs.Tryz.ntmps85 rfl ?_
  refine f_seq ?_
  refine f_wf (.tmp 0) rfl (fun hwf => ?_) (by simp)
  have hlen : l.length ≤ 140737488355328 := hwf.1
  clear hwf
  refine f_region (zm2 rfl rfl rfl (snil (f_seq (f_seq (f_region (zm1 rfl rfl rfl ?_)))))); refine zq (p_len rfl wLst_isl22 Zz) rfl (zm1 rfl rfl rfl (snil (f_block ?_)))
  refine f_loop (α := Nat) (fun i => i ≤ l.length ∧ ∀ y ∈ l.take i, decide (y = x) = false) (fun i => [(8, iv i), (0, .val (ints l)), (1, iv x), (7, iv l.length)]) (fun i => l.length - i) 0 ?_ ?_ ?_
  · exact ⟨Nat.zero_le _, by simp⟩
  · exact le_ofL ⟨rfl, rfl, rfl, rfl, trivial⟩ rfl
  · rintro i ⟨hi, hp⟩
    refine f_seq (f_region ?_); refine zq (p_lss rfl Zz Zz) rfl (snil (f_seq (f_cond rfl ?_ ?_)))
    · intro hc1; (try simp only [bs] at hc1); refine f_skip (f_seq (f_block (f_seq (f_region (zm1 rfl rfl rfl (zm2 rfl rfl rfl (snil (f_seq (f_region (zm1 rfl rfl rfl (zm1 rfl rfl rfl (zm1 rfl rfl rfl ?_)))))))))))); refine zq ((by first | exact p_indexN rfl wLst_isl22 wLst_siz3 Zz Zz (by omega) | exact p_index rfl wLst_isl22 wLst_siz3 Zz Zz (by omega) (by omega))) rfl ?_; refine zq (p_load rfl wLst_agg3 Zz rfl) rfl ?_; refine zq (p_eql rfl Zz Zz) rfl (snil (f_cond rfl ?_ ?_))
      · intro hc2; (try simp only [bs] at hc2); refine f_seq (f_region (zm1 rfl rfl rfl (zm2 rfl rfl rfl (snil (f_ret ?_)))))
        refine ends_ret (res_eq (res1 rfl (res_tmp rfl (Sees.of rfl))) ?_)
        rw [Sp.place, Sp.idx_at (z := 0) (by omega) hp (decide_eq_true hc2.symm)]
      · intro hc2; (try simp only [bs] at hc2); refine f_skip (f_nil ?_); show AWs _ _ _ _ _; refine f_region ?_; refine zq (p_add rfl Zz Zz (by omega)) rfl (zm1 rfl rfl rfl (snil ?_))
        refine f_back ⟨i + 1, ?_, ?_, le_ofL ⟨rfl, rfl, rfl, rfl, trivial⟩ rfl⟩
        · exact ⟨by omega, Sp.step_all (z := 0) (by omega) hp (decide_eq_false (fun h => hc2 h.symm))⟩
        · omega
    · intro hc1; (try simp only [bs] at hc1); refine f_exit ?_; show AWs _ _ _ _ _; refine f_seq (f_region (zm2 rfl rfl rfl (snil (f_ret ?_))))
      refine ends_ret (res_eq (res1 rfl (res_tmp rfl (Sees.of rfl))) ?_)
      rw [List.take_of_length_le (by omega)] at hp
      rw [Sp.place, Sp.idx_none hp]

theorem hasI_spec (l : List Int) (x : Int) :
    Spec Go.Proofs.Tryz.prog 81 [.val (ints l), iv x] (D.bool (decide (x ∈ l))) := by
  refine spec_of' Go.Proofs.Tryz.func81 rfl Go.Proofs.Tryz.ntmps81 rfl ?_
  refine f_seq (f_region (zm2 rfl rfl rfl (snil (f_seq (f_region (zm1 rfl rfl rfl (zm1 rfl rfl rfl ?_))))))); refine zc (c_call rfl wLst_isf85 ⟨_, _, rfl, Zz, rfl, ⟨_, _, rfl, Zz, rfl, rfl⟩⟩ (idxI_spec l x)) rfl ?_; refine zq (p_geq rfl Zz Zz) rfl (zm2 rfl rfl rfl (snil (f_ret ?_)))
  refine ends_ret (res_eq (res1 rfl (res_tmp rfl (Sees.of rfl))) ?_)
  congr 1
  exact decide_eq_decide.2 Sp.place_lt.symm

theorem clipC_spec (ls : List (List Int)) :
    Spec Go.Proofs.Tryz.prog 32 [.val (intss ls)] (.clp (intss ls)) := by
  refine spec_of' Go.Proofs.Tryz.func32 rfl Go.Proofs.Tryz.ntmps32 rfl ?_
  refine f_seq (f_region (zm5 rfl rfl rfl (snil (f_seq (f_region (zm1 rfl rfl rfl (zm1 rfl rfl rfl ?_))))))); refine zq (p_len rfl wLst_isl23 Zz) rfl (zm1 rfl rfl rfl ?_); refine zq (p_len rfl wLst_isl23 Zz) rfl ?_; refine zq (p_clipC rfl wLst_isl23 wLst_siz22 Zz Zz Zz) rfl (zm2 rfl rfl rfl (snil (f_ret ?_)))
  refine ends_ret (res_eq (res1 rfl (res_tmp rfl (Sees.of rfl))) ?_)
  rfl

theorem delF_spec (u : Nat) (xs : List Int) (p : Int → Bool) (V : Int → Prop) (hV : ∀ z ∈ xs, V z) (hl : xs.length ≤ 1000000) :
    SpecV Go.Proofs.Tryz.prog 79 [.row 30000 u, .val (.fn (α := { z : Int // V z }) (fun z => .cons (di z.1) .nil) (fun z => .bool (p z.1)))] [(30000, .arr u 3 1 8 di 0 xs)] ((.row 30000 (u + 1))) [(30000, .arr (u + 1) 3 1 8 di 0 (xs.filter fun x => !p x))] := by
  refine specV_of' Go.Proofs.Tryz.func79 rfl Go.Proofs.Tryz.ntmps79 rfl rfl rfl rfl rfl ?_
  refine f_seq (f_region (zm5 rfl rfl rfl (snil (f_seq (f_region (zm3 rfl rfl rfl (zm1 rfl rfl rfl ?_))))))); refine zc (c_callS (q := true) rfl wLst_isf118 (indexI_spec xs p V hV) (sa_cons (sh_row Zz rfl) (sa_cons (sh_of Zz rfl) (sa_nil))) rfl) rfl (zm2 rfl rfl rfl (snil (f_seq (f_seq (f_region (zm1 rfl rfl rfl ?_)))))); refine zq (p_eql rfl Zz Zz) rfl (snil (f_cond rfl ?_ ?_))
  · intro hc1; (try simp only [bs] at hc1)
    have hno : ∀ y ∈ xs, p y = false := Sp.idxV_neg (by omega)
    have hfl : (xs.filter fun x => !p x) = xs := List.filter_eq_self.2 (fun y hy => by rw [hno y hy]; rfl)
    refine f_seq (f_region (zm3 rfl rfl rfl (zm4 rfl rfl rfl (snil ?_))))
    refine f_le (le_bump (o1 := 30000) (k := 4) rfl rfl rfl rfl rfl) ?_ (by simp)
    refine f_ret ?_
    refine endsV_ret (resV_eq (resV_tmp rfl rfl rfl (Sees.of rfl)) ?_) ⟨rfl, (by first | (rw [hfl]; rfl) | (rw [hfin]; rfl)), trivial⟩ rfl
    rfl
  · intro hc1; (try simp only [bs] at hc1)
    obtain ⟨hidx0, hidx1⟩ := Sp.idx_mem (p := p) (l := xs) 0 (by have := Sp.idx_ge p xs; omega)
    obtain ⟨k0, hk0⟩ : ∃ k0 : Nat, Sp.idx p xs = k0 := ⟨(Sp.idx p xs).toNat, by have := Sp.idx_ge p xs; omega⟩
    rw [hk0] at hidx0 hidx1 ⊢
    simp only [Int.toNat_natCast] at hidx0 hidx1
    have hbef : ∀ y ∈ xs.take k0, p y = false := Sp.idx_before hk0
    have hC0 : ((xs.take (k0 + 1)).filter fun x => !p x) = xs.take k0 := by rw [Sp.take_getD xs k0 0 hidx0, List.filter_append, List.filter_cons_of_neg (by rw [hidx1]; decide), List.filter_nil, List.append_nil]; exact List.filter_eq_self.2 (fun y hy => by rw [hbef y hy]; rfl)
    have hC0l : (xs.take k0).length = k0 := by simp; omega
    refine f_skip (f_seq (f_seq (f_region (zm1 rfl rfl rfl ?_)))); refine zq (p_add rfl Zz Zz (by omega)) rfl (zm2 rfl rfl rfl (snil (f_block ?_)))
    refine f_loop (α := Nat) (fun j => k0 + 1 ≤ j ∧ j ≤ xs.length ∧ ((xs.take j).filter fun x => !p x).length + 1 ≤ j) (fun j => [(6, iv j), (5, iv ((xs.take j).filter fun x => !p x).length), (0, .row 30000 u), (1, .val (.fn (α := { z : Int // V z }) (fun z => .cons (di z.1) .nil) (fun z => .bool (p z.1)))), (30000, .arr u 3 1 8 di 0 (((xs.take j).filter fun x => !p x) ++ xs.drop ((xs.take j).filter fun x => !p x).length)), (29999, .clo 0 (.ccons (.row 30000 u) .cnil)), (4, .emp)]) (fun j => xs.length - j) (k0 + 1) ?_ ?_ ?_
    · rw [hC0, hC0l]
      exact ⟨Nat.le_refl _, by omega, Nat.le_refl _⟩
    · exact le_ofL ⟨rfl, (by rw [hC0, hC0l]; rfl), rfl, rfl, (by rw [hC0, hC0l, List.take_append_drop]; rfl), rfl, rfl, trivial⟩ rfl
    · rintro j ⟨hj1, hj, hcl⟩
      have hrl := Sp.row_len (xs := xs) (c := ((xs.take j).filter fun x => !p x)) (by omega)
      refine f_seq (f_seq (f_region (zm1 rfl rfl rfl (zm3 rfl rfl rfl ?_)))); refine zq (p_lenR rfl wLst_isl22 Zz rfl) rfl ?_; refine zq (p_lss rfl Zz Zz) rfl (snil (f_cond rfl ?_ ?_))
      · intro hc2; (try simp only [bs] at hc2); refine f_skip (f_seq (f_block (f_seq (f_region (zm3 rfl rfl rfl (zm1 rfl rfl rfl ?_)))))); refine zq ((by first | exact p_indexR rfl wLst_isl22 wLst_siz3 Zz rfl Zz (by omega) | exact p_indexRZ rfl wLst_isl22 wLst_siz3 Zz rfl Zz (by omega) (by omega))) rfl ?_; refine zq (p_loadE rfl wLst_agg3 Zz rfl (by omega) (fun _ => rfl)) rfl (zm2 rfl rfl rfl (snil (f_seq ?_)))
        have hat : (((xs.take j).filter fun x => !p x) ++ xs.drop ((xs.take j).filter fun x => !p x).length).getD j 0 = xs.getD j 0 := Sp.row_at (by omega)
        refine f_region (zm1 rfl rfl rfl (zm1 rfl rfl rfl ?_)); refine zc (c_callV (q := false) (⟨(((xs.take j).filter fun x => !p x) ++ xs.drop ((xs.take j).filter fun x => !p x).length).getD j 0, by rw [Sp.row_at (by omega)]; exact hV _ (Sp.getD_mem xs j 0 (by omega))⟩) rfl Zz rfl (sa_cons (sh_of Zz rfl) (sa_nil)) rfl) rfl ?_; refine zq (p_not rfl Zz) rfl (snil (f_cond rfl ?_ ?_))
        · intro hc3; (try simp only [bs] at hc3); refine f_seq (f_region (zm3 rfl rfl rfl (zm1 rfl rfl rfl (zm1 rfl rfl rfl ?_)))); refine zq ((by first | exact p_indexR rfl wLst_isl22 wLst_siz3 Zz rfl Zz (by omega) | exact p_indexRZ rfl wLst_isl22 wLst_siz3 Zz rfl Zz (by omega) (by omega))) rfl ?_; refine scons (r_storeE rfl wLst_siz3 rfl rfl rfl Zz rfl (by omega) Zz rfl) (snil (f_region (zm1 rfl rfl rfl ?_))); refine zq (p_add rfl Zz Zz (by omega)) rfl (zm2 rfl rfl rfl (snil (f_nil ?_))); show AWs _ _ _ _ _; refine f_region (zm1 rfl rfl rfl ?_); refine zq (p_add rfl Zz Zz (by omega)) rfl (zm2 rfl rfl rfl (snil ?_))
          refine f_back ⟨j + 1, ?_, ?_, le_ofL ⟨rfl, (by rw [Sp.take_getD xs j 0 (by omega), List.filter_append, List.filter_cons_of_pos (by rw [hat] at hc3; rw [hc3]; rfl), List.length_append]; show AV.val (.int .i64 (((xs.take j).filter fun x => !p x).length + 1)) = _; simp), rfl, rfl, (by rw [Sp.take_getD xs j 0 (by omega), List.filter_append, List.filter_cons_of_pos (by rw [hat] at hc3; rw [hc3]; rfl)]; show AV.arr _ _ _ _ _ _ ((((xs.take j).filter fun x => !p x) ++ xs.drop ((xs.take j).filter fun x => !p x).length).set ((xs.take j).filter fun x => !p x).length ((((xs.take j).filter fun x => !p x) ++ xs.drop ((xs.take j).filter fun x => !p x).length).getD j 0)) = _; rw [hat, Sp.set_next (by omega)]; congr 2; rw [List.length_append]; rfl), rfl, rfl, trivial⟩ rfl⟩
          · have hy : ((xs.take (j + 1)).filter fun x => !p x) = ((xs.take j).filter fun x => !p x) ++ [xs.getD j 0] := by rw [Sp.take_getD xs j 0 (by omega), List.filter_append, List.filter_cons_of_pos (by rw [hat] at hc3; rw [hc3]; rfl)]; rfl
            rw [hy, List.length_append]
            exact ⟨by omega, by omega, by simp; omega⟩
          · omega
        · intro hc3; (try simp only [bs] at hc3); refine f_skip (f_nil ?_); show AWs _ _ _ _ _; refine f_region (zm1 rfl rfl rfl ?_); refine zq (p_add rfl Zz Zz (by omega)) rfl (zm2 rfl rfl rfl (snil ?_))
          refine f_back ⟨j + 1, ?_, ?_, le_ofL ⟨rfl, (by rw [Sp.take_getD xs j 0 (by omega), List.filter_append, List.filter_cons_of_neg (by rw [hat] at hc3; rw [hc3]; decide), List.filter_nil, List.append_nil]; rfl), rfl, rfl, (by rw [Sp.take_getD xs j 0 (by omega), List.filter_append, List.filter_cons_of_neg (by rw [hat] at hc3; rw [hc3]; decide), List.filter_nil, List.append_nil]; rfl), rfl, rfl, trivial⟩ rfl⟩
          · have hy : ((xs.take (j + 1)).filter fun x => !p x) = ((xs.take j).filter fun x => !p x) := by rw [Sp.take_getD xs j 0 (by omega), List.filter_append, List.filter_cons_of_neg (by rw [hat] at hc3; rw [hc3]; decide)]; simp
            rw [hy]
            exact ⟨by omega, by omega, by omega⟩
          · omega
      · intro hc2; (try simp only [bs] at hc2)
        obtain rfl : j = xs.length := by omega
        refine f_exit ?_; show AWs _ _ _ _ _; refine f_seq (f_region (zm3 rfl rfl rfl (zm1 rfl rfl rfl ?_))); refine zq (p_subS (l := ((xs.take xs.length).filter fun x => !p x).length) rfl wLst_isl22 wLst_siz3 Zz rfl Zz (by omega)) rfl ?_; refine scons (r_clearS (f := di) (z := 0) rfl wLst_isl22 wLst_zer3 rfl rfl (fun _ _ => rfl) rfl rfl rfl Zz rfl (by omega)) (snil (f_seq (f_region (zm3 rfl rfl rfl (zm1 rfl rfl rfl ?_))))); refine scons (r_trim (h := ((xs.take xs.length).filter fun x => !p x).length) rfl wLst_isl22 wLst_siz3 Zz rfl Zz (by simp only [List.length_append, List.length_take, List.length_replicate]; omega) rfl rfl rfl rfl rfl) ?_; refine zm4 rfl rfl rfl (snil (f_ret ?_))
        have hfin : ((((((xs.take xs.length).filter fun x => !p x) ++ xs.drop ((xs.take xs.length).filter fun x => !p x).length).take ((xs.take xs.length).filter fun x => !p x).length) ++ List.replicate ((((xs.take xs.length).filter fun x => !p x) ++ xs.drop ((xs.take xs.length).filter fun x => !p x).length).length - ((xs.take xs.length).filter fun x => !p x).length) 0).take ((xs.take xs.length).filter fun x => !p x).length) = xs.filter fun x => !p x := by
          have e1 : ((xs.take xs.length).filter fun x => !p x) = xs.filter fun x => !p x := by rw [List.take_length]
          rw [e1]
          simp
        refine endsV_ret (resV_eq (resV_tmp rfl rfl rfl (Sees.of rfl)) ?_) ⟨rfl, (by first | (rw [hfl]; rfl) | (rw [hfin]; rfl)), trivial⟩ rfl
        rfl

end Go.Um
