/- Walks of Go functions of this seat, each by its contract. No condition beyond what each theorem says. -/
import Derived.Test.YtofonmfoificjaaRange
import Derived.Test.YtofonmfoificjaaWSat
import Derived.Test.YtofonmfoificjaaSp8
import Derived.Test.YtofonmfoificjaaProg
import Derived.KernelRfl
set_option maxRecDepth 4000
namespace Go.Um
open Go Go.RowKit

theorem wEach_agg22 : IsAgg Go.Proofs.Try.prog 22 false := by unfold IsAgg; kernel_rfl
theorem wEach_agg3 : IsAgg Go.Proofs.Try.prog 3 false := by unfold IsAgg; kernel_rfl
theorem wEach_isf125 : IsFn Go.Proofs.Try.prog 125 := by unfold IsFn; kernel_rfl
theorem wEach_isf67 : IsFn Go.Proofs.Try.prog 67 := by unfold IsFn; kernel_rfl

set_option maxHeartbeats 1000000 in
theorem each1_iter (n : Nat) (hn : n ≤ 16) (ls : List (List Int)) (hG : ∀ l ∈ ls, Sp.Good n l) : Iter Go.Proofs.Try.prog 124 [.ptr (di n), .ptr (intss ls)] (2 ^ n) (fun k => Sp.all (Sp.bits n k) ls) (fun k => bools (Sp.bits n k)) := by
  intro l W ok vs J Jx hok hargs hJk hJs hJxs hJno hY hJ0
  obtain ⟨v1, vs1, rfl, hv1, v2, vs2, rfl, hv2, rfl⟩ := hargs
  obtain ⟨yv, hyv⟩ : ∃ yv, Value.func (.yield l) #[] #[] = yv := ⟨_, rfl⟩
  rw [hyv]
  have hpw := Sp.pow_ok (m := n) (by omega)
  have hp16 := Sp.pow16 hn
  have hpn := Sp.pow_nat n
  have hc1 : ∀ k W1, J k W1 → (∀ b, ok b → b < W1.heap.size) ∧ ARel Go.Proofs.Try.prog ok W1 (.both v1 (.ptr (di n))) v1 ∧ ARel Go.Proofs.Try.prog ok W1 (.both v2 (.ptr (intss ls))) v2 := fun k W1 h => by
    obtain ⟨h1, h2⟩ := hJk k W1 h
    have key : ∀ x v, ARel Go.Proofs.Try.prog ok W x v → ARel Go.Proofs.Try.prog ok W1 x v := fun x v hx => VR_monoC' (fun b hb => ⟨hb, h2 b hb⟩) h1 x (fun o _ => Goes.refl _ _ _ o) hx
    exact ⟨fun b hb => Nat.lt_of_lt_of_le (hok b hb) h1, ⟨rfl, key _ _ hv1⟩, ⟨rfl, key _ _ hv2⟩⟩
  have hv0 : ∀ W1, ARel Go.Proofs.Try.prog ok W1 (.both yv .any) yv := fun W1 => ⟨rfl, _, rfl⟩
  have aint : ∀ W1 (i : Int), ARel Go.Proofs.Try.prog ok W1 (.val (.int .i64 i)) (.int .i64 i) := fun W1 i => ⟨_, rfl, rfl, rfl⟩
  refine callsIn_of_wp (F := wd none) Go.Proofs.Try.func124 rfl trivial ?_ rfl
  rw [Go.Proofs.Try.ntmps124]
  have hvs : #[yv] ++ [v1, v2].toArray = [yv, v1, v2].toArray := rfl
  rw [hvs]
  obtain ⟨a0, ha0⟩ : ∃ a0 : Act, a0 = { tmps := [yv, v1, v2].toArray ++ Array.replicate (24 - [yv, v1, v2].toArray.size) undef, defers := [] } := ⟨_, rfl⟩
  have ga : ∀ t, a0.tmps.getD t undef = [yv, v1, v2].getD t undef := fun t => by rw [ha0]; exact init_get _ _ t
  have gs : a0.tmps.size = 24 := by rw [ha0]; exact init_size _ (by simp)
  have gd : a0.defers = [] := by rw [ha0]
  rw [← ha0]
  clear ha0
  obtain ⟨X, hXn, hXw, hXo, hXb, hXd, hXk, hr⟩ := rel_new (P := Go.Proofs.Try.prog) (n := 24) (a := a0) hok gs gd [(0, .both yv .any), (1, .both v1 (.ptr (di n))), (2, .both v2 (.ptr (intss ls)))] (by
    obtain ⟨c1, c2, c3⟩ := hc1 0 W hJ0
    intro q hq
    simp only [List.mem_cons, List.not_mem_nil, or_false] at hq
    rcases hq with rfl | rfl | rfl
    · exact ⟨by dsimp only; omega, by rw [ga]; exact hv0 W⟩
    · exact ⟨by dsimp only; omega, by rw [ga]; exact c2⟩
    · exact ⟨by dsimp only; omega, by rw [ga]; exact c3⟩)
  refine wpIn_seq (region_wp (K := fun s => Le Go.Proofs.Try.prog s (ofL [(0, .both yv .any), (1, .both v1 (.ptr (di n))), (2, .both v2 (.ptr (intss ls))), (7, iv (2 ^ n : Nat)), (8, iv 0)])) hXn hr ?_ (by kernel_rfl) ?_)
  · skip
    refine scons (CStep.step (PStep.c (p_load rfl wEach_agg3 (Sees.both rfl) rfl)) rfl rfl rfl rfl) ?_
    refine scons (CStep.step (PStep.c (p_shl rfl (Sees.of rfl) (Sees.of rfl) (by omega) (by omega) (by first | omega | assumption))) rfl rfl rfl rfl) ?_
    refine scons (CStep.step (PStep.c (p_move (y := .val _) rfl (Sees.of rfl) rfl)) rfl rfl rfl rfl) ?_
    refine snil ?_
    rw [hpn]
    exact le_ofL ⟨rfl, rfl, rfl, rfl, rfl, trivial⟩ rfl
  intro s1 a1 W1 hle hr1
  have hr1 := hle X a1 W1 hr1
  have hB1 := rel_belw (Ext.refl X) hXb hr1
  rw [hXw] at hB1
  refine wpIn_block ?_
  have inv0 : ∀ (k : Nat) (a : Act) (w : World) (X : Cx), X.n = 24 → Rel Go.Proofs.Try.prog X (ofL [(0, .both yv .any), (1, .both v1 (.ptr (di n))), (2, .both v2 (.ptr (intss ls))), (7, iv (2 ^ n : Nat)), (8, iv k)]) a w → X.defs = [] → a.defers = [] ∧ a.tmps.size = 24 ∧ a.tmps.getD 0 undef = yv ∧ a.tmps.getD 1 undef = v1 ∧ a.tmps.getD 2 undef = v2 ∧ a.tmps.getD 7 undef = .int .i64 (2 ^ n : Nat) ∧ a.tmps.getD 8 undef = .int .i64 k := by
    intro k a w X hn' hr' hd'
    have hr2 := hr'
    obtain ⟨β, ν, h⟩ := hr2
    exact ⟨h.defers.trans hd', h.tmps.trans hn', rel_both hr' rfl rfl, rel_both hr' rfl rfl, rel_both hr' rfl rfl, rel_int hr' rfl rfl, rel_int hr' rfl rfl⟩
  have inv1 : ∀ (k : Nat) (a : Act) (w : World), J k w → a.defers = [] ∧ a.tmps.size = 24 ∧ a.tmps.getD 0 undef = yv ∧ a.tmps.getD 1 undef = v1 ∧ a.tmps.getD 2 undef = v2 ∧ a.tmps.getD 7 undef = .int .i64 (2 ^ n : Nat) ∧ a.tmps.getD 8 undef = .int .i64 k →
      ∃ X : Cx, X.n = 24 ∧ X.w0 = w ∧ X.ok0 = ok ∧ (∀ b, ¬ X.bor b) ∧ X.defs = [] ∧ (∀ b, X.kp b = none) ∧ Rel Go.Proofs.Try.prog X (ofL [(0, .both yv .any), (1, .both v1 (.ptr (di n))), (2, .both v2 (.ptr (intss ls))), (7, iv (2 ^ n : Nat)), (8, iv k)]) a w := by
    rintro k a w hj ⟨h1, h2, h3, h4, h5, h6, h7⟩
    obtain ⟨c1, c2, c3⟩ := hc1 k w hj
    refine rel_new c1 h2 h1 _ ?_
    intro q hq
    simp only [List.mem_cons, List.not_mem_nil, or_false] at hq
    rcases hq with rfl | rfl | rfl | rfl | rfl
    · exact ⟨by dsimp only; omega, by rw [h3]; exact hv0 w⟩
    · exact ⟨by dsimp only; omega, by rw [h4]; exact c2⟩
    · exact ⟨by dsimp only; omega, by rw [h5]; exact c3⟩
    · exact ⟨by dsimp only; omega, by rw [h6]; exact aint w _⟩
    · exact ⟨by dsimp only; omega, by rw [h7]; exact aint w _⟩
  refine wpIn_loop_ghost (fun q a w => ∃ k : Nat, 2 ^ n - k = q ∧ k ≤ 2 ^ n ∧ J k w ∧ a.defers = [] ∧ a.tmps.size = 24 ∧ a.tmps.getD 0 undef = yv ∧ a.tmps.getD 1 undef = v1 ∧ a.tmps.getD 2 undef = v2 ∧ a.tmps.getD 7 undef = .int .i64 (2 ^ n : Nat) ∧ a.tmps.getD 8 undef = .int .i64 k) (2 ^ n - 0) ⟨0, rfl, Nat.zero_le _, hJs 0 W W1 hJ0 hB1, inv0 0 a1 W1 X hXn hr1 hXd⟩ ?_
  clear hr hXn hXw hXo hXb hXd hXk
  rintro q a w ⟨k, rfl, hk, hj, hfacts⟩
  obtain ⟨X, hXn, hXw, hXo, hXb, hXd, hXk, hr⟩ := inv1 k a w hj hfacts
  refine wpIn_seq (region_wp (K := fun s => Le Go.Proofs.Try.prog s (ofL ([(0, .both yv .any), (1, .both v1 (.ptr (di n))), (2, .both v2 (.ptr (intss ls))), (7, iv (2 ^ n : Nat)), (8, iv k)] ++ [(9, bv (decide ((k : Int) < (2 ^ n : Nat))))]))) hXn hr ?_ (by kernel_rfl) ?_)
  · skip
    refine scons (CStep.step (PStep.c (p_lss rfl (Sees.of rfl) (Sees.of rfl))) rfl rfl rfl rfl) ?_
    refine snil ?_
    exact le_ofL ⟨rfl, rfl, rfl, rfl, rfl, rfl, trivial⟩ rfl
  intro s1 a1 w1 hle hr1
  have hr1 := hle X a1 w1 hr1
  have hbv := rel_bool hr1 (t := 9) rfl rfl
  refine wpIn_seq ?_
  rcases Nat.lt_or_ge (2 ^ n) (k + 1) with hge | hlt
  · refine wpIn_cond_false (by show a1.tmps.getD 9 undef = _; rw [hbv, decide_eq_false (by omega)]) (wpIn_exit ?_)
    obtain rfl : k = 2 ^ n := by omega
    have hB := rel_belw (Ext.refl X) hXb hr1
    rw [hXw] at hB
    obtain ⟨β, ν, h1⟩ := hr1
    refine ⟨h1.defers.trans hXd, _, results_none rfl _ _ _, ⟨_, rfl⟩, .inl (hJs _ _ _ hj hB)⟩
  refine wpIn_cond_true (by show a1.tmps.getD 9 undef = _; rw [hbv, decide_eq_true (by omega)]) (wpIn_skip ?_)
  refine wpIn_seq (wpIn_block (wpIn_seq (region_wp (K := fun s => Le Go.Proofs.Try.prog s (ofL [(0, .both yv .any), (1, .both v1 (.ptr (di n))), (2, .both v2 (.ptr (intss ls))), (7, iv (2 ^ n : Nat)), (8, iv k), (4, iv k)])) hXn hr1 ?_ (by kernel_rfl) ?_)))
  · skip
    refine scons (CStep.step (PStep.c (p_move (y := .val _) rfl (Sees.of rfl) rfl)) rfl rfl rfl rfl) ?_
    refine scons (CStep.step (PStep.c (p_assign (y := .val _) rfl (Sees.of rfl) rfl)) rfl rfl rfl rfl) ?_
    refine snil ?_
    exact le_ofL ⟨rfl, rfl, rfl, rfl, rfl, rfl, trivial⟩ rfl
  intro s2 a2 w2 hle2 hr2
  have hr2 := hle2 X a2 w2 hr2
  refine wpIn_seq (region_wp (K := fun s => Le Go.Proofs.Try.prog s (ofL [(0, .both yv .any), (1, .both v1 (.ptr (di n))), (2, .both v2 (.ptr (intss ls))), (7, iv (2 ^ n : Nat)), (8, iv k), (5, .val (bools (Sp.bits n k)))])) hXn hr2 ?_ (by kernel_rfl) ?_)
  · skip
    refine scons (CStep.step (PStep.c (p_load rfl wEach_agg3 (Sees.both rfl) rfl)) rfl rfl rfl rfl) ?_
    refine scons (CStep.step (PStep.c (p_move (y := .val _) rfl (Sees.of rfl) rfl)) rfl rfl rfl rfl) ?_
    refine scons (CStep.step (c_call rfl wEach_isf67 ⟨_, _, rfl, (Sees.of rfl), rfl, ⟨_, _, rfl, (Sees.of rfl), rfl, rfl⟩⟩ ((assignment_spec n k (by omega)).spec false)) rfl rfl rfl rfl) ?_
    refine scons (CStep.step (PStep.c (p_assign (y := .val _) rfl (Sees.of rfl) rfl)) rfl rfl rfl rfl) ?_
    refine snil ?_
    exact le_ofL ⟨rfl, rfl, rfl, rfl, rfl, rfl, trivial⟩ rfl
  intro s3 a3 w3 hle3 hr3
  have hr3 := hle3 X a3 w3 hr3
  have hGk : ∀ l ∈ ls, Sp.Good (Sp.bits n k).length l := by rw [Sp.bits_length]; exact hG
  refine wpIn_seq (wpIn_region ?_)
  show wpOpsIn (wd none) 0 _ _ _ (List.range' 0 4 ++ [4, 5, 6, 7, 8]) _ _
  refine wpOps_seg 0 4 rfl (fun s => Le Go.Proofs.Try.prog s (ofL [(0, .both yv .any), (1, .both v1 (.ptr (di n))), (2, .both v2 (.ptr (intss ls))), (7, iv (2 ^ n : Nat)), (8, iv k), (5, .val (bools (Sp.bits n k))), (17, bv (Sp.all (Sp.bits n k) ls))])) hXn (by kernel_rfl) hr3 ?_ ?_
  · skip
    refine scons (CStep.step (PStep.c (p_load rfl wEach_agg22 (Sees.both rfl) rfl)) rfl rfl rfl rfl) ?_
    refine scons (CStep.step (PStep.c (p_move (y := .val _) rfl (Sees.of rfl) rfl)) rfl rfl rfl rfl) ?_
    refine scons (CStep.step (c_call rfl wEach_isf125 ⟨_, _, rfl, (Sees.of rfl), rfl, ⟨_, _, rfl, (Sees.of rfl), rfl, rfl⟩⟩ (call_spec ls (Sp.bits n k) hGk)) rfl rfl rfl rfl) ?_
    refine scons (CStep.step (PStep.c (p_move (y := .val _) rfl (Sees.of rfl) rfl)) rfl rfl rfl rfl) ?_
    refine snil ?_
    exact le_ofL ⟨rfl, rfl, rfl, rfl, rfl, rfl, rfl, trivial⟩ rfl
  intro s4 a4 w4 hle4 hr4
  have hr4 := hle4 X a4 w4 hr4
  rcases (Bool.eq_false_or_eq_true (Sp.all (Sp.bits n k) ls)).symm with hy | hy
  · show wpOpsIn (wd none) 0 _ _ _ (List.range' 4 5 ++ []) _ _
    refine wpOps_seg 4 5 rfl (fun s => Le Go.Proofs.Try.prog s (ofL [(0, .both yv .any), (1, .both v1 (.ptr (di n))), (2, .both v2 (.ptr (intss ls))), (7, iv (2 ^ n : Nat)), (8, iv k), (22, bv false)])) hXn (by kernel_rfl) hr4 ?_ ?_
    · skip
      refine scons (LStep.gfalse rfl rfl rfl rfl rfl (by first | exact hy | simp only [hy, Bool.not_true, Bool.not_false] | simp [hy]) rfl rfl rfl) ?_
      refine scons (LStep.gfalse rfl rfl rfl rfl rfl (by first | exact hy | simp only [hy, Bool.not_true, Bool.not_false] | simp [hy]) rfl rfl rfl) ?_
      refine scons (LStep.gfalse rfl rfl rfl rfl rfl (by first | exact hy | simp only [hy, Bool.not_true, Bool.not_false] | simp [hy]) rfl rfl rfl) ?_
      refine scons (LStep.gfalse rfl rfl rfl rfl rfl (by first | exact hy | simp only [hy, Bool.not_true, Bool.not_false] | simp [hy]) rfl rfl rfl) ?_
      refine scons (CStep.step (PStep.c (p_and (ba := false) rfl (Sees.of rfl) (fun h => absurd h (by first | simp only [hy, Bool.not_true, Bool.not_false, Bool.true_eq_false, Bool.false_eq_true, not_false_eq_true] | simp [hy])) (Sees.of rfl))) rfl rfl rfl rfl) ?_
      refine snil ?_
      exact le_ofL ⟨rfl, rfl, rfl, rfl, rfl, by show AV.val (.bool ((Sp.all (Sp.bits n k) ls) && false)) = _; rw [hy]; rfl, trivial⟩ rfl
    intro s5 a5 w5 hle5 hr5
    have hr5 := hle5 X a5 w5 hr5
    have hb5 := rel_bool hr5 (t := 22) rfl rfl
    show Code.wpIn (wd none) 0 _ _ _ _ _
    refine wpIn_cond_false hb5 (wpIn_skip ?_)
    show Code.wpIn (wd none) 0 _ _ _ _ _
    have hle6 : Le Go.Proofs.Try.prog (ofL [(0, .both yv .any), (1, .both v1 (.ptr (di n))), (2, .both v2 (.ptr (intss ls))), (7, iv (2 ^ n : Nat)), (8, iv k), (22, bv false)]) (ofL [(0, .both yv .any), (1, .both v1 (.ptr (di n))), (2, .both v2 (.ptr (intss ls))), (7, iv (2 ^ n : Nat)), (8, iv k)]) := le_ofL ⟨rfl, rfl, rfl, rfl, rfl, trivial⟩ rfl
    have hr6 := hle6 X a5 w5 hr5
    refine region_wp (K := fun s => Le Go.Proofs.Try.prog s (ofL [(0, .both yv .any), (1, .both v1 (.ptr (di n))), (2, .both v2 (.ptr (intss ls))), (7, iv (2 ^ n : Nat)), (8, iv (k + 1 : Nat))])) hXn hr6 ?_ (by kernel_rfl) ?_
    · skip
      refine scons (CStep.step (PStep.c (p_add rfl (Sees.of rfl) (Sees.of rfl) (by omega))) rfl rfl rfl rfl) ?_
      refine scons (CStep.step (PStep.c (p_move (y := .val _) rfl (Sees.of rfl) rfl)) rfl rfl rfl rfl) ?_
      refine snil ?_
      exact le_ofL ⟨rfl, rfl, rfl, rfl, rfl, trivial⟩ rfl
    intro s8 a8 w8 hle8 hr8
    have hr8 := hle8 X a8 w8 hr8
    have hB8 := rel_belw (Ext.refl X) hXb hr8
    exact ⟨2 ^ n - (k + 1), by omega, k + 1, rfl, hlt, hJs _ _ _ (by rw [hXw]; exact hJno k w hlt hy hj) hB8, inv0 (k + 1) a8 w8 X hXn hr8 hXd⟩
  · show wpOpsIn (wd none) 0 _ _ _ (List.range' 4 2 ++ [6, 7, 8]) _ _
    refine wpOps_seg 4 2 rfl (fun s => Le Go.Proofs.Try.prog s (ofL [(0, .both yv .any), (1, .both v1 (.ptr (di n))), (2, .both v2 (.ptr (intss ls))), (7, iv (2 ^ n : Nat)), (8, iv k), (5, .val (bools (Sp.bits n k))), (17, bv true), (18, .both yv .any), (19, .val (bools (Sp.bits n k)))])) hXn (by kernel_rfl) hr4 ?_ ?_
    · skip
      refine scons (LStep.gtrue rfl rfl rfl rfl rfl (by exact hy) (CStep.step (PStep.c (p_move (y := .both _ _) rfl (Sees.of rfl) rfl)) rfl rfl rfl rfl)) ?_
      refine scons (LStep.gtrue rfl rfl rfl rfl rfl (by exact hy) (CStep.step (PStep.c (p_move (y := .val _) rfl (Sees.of rfl) rfl)) rfl rfl rfl rfl)) ?_
      refine snil ?_
      exact le_ofL ⟨rfl, rfl, rfl, rfl, rfl, rfl, by show AV.val (.bool (Sp.all (Sp.bits n k) ls)) = _; rw [hy], rfl, rfl, trivial⟩ rfl
    intro s5 a5 w5 hle5 hr5
    have hr5 := hle5 X a5 w5 hr5
    have t17 := rel_bool hr5 (t := 17) rfl rfl
    have t18 := rel_both hr5 (t := 18) rfl rfl
    have hB5 := rel_belw (Ext.refl X) hXb hr5
    rw [hXw] at hB5
    obtain ⟨a5d, a5n, t0, t1, t2, t7, t8⟩ := inv0 k a5 w5 X hXn ((le_ofL ⟨rfl, rfl, rfl, rfl, rfl, trivial⟩ rfl : Le Go.Proofs.Try.prog _ (ofL [(0, .both yv .any), (1, .both v1 (.ptr (di n))), (2, .both v2 (.ptr (intss ls))), (7, iv (2 ^ n : Nat)), (8, iv k)])) X a5 w5 hr5) hXd
    have hv5 : RV Go.Proofs.Try.prog (bools (Sp.bits n k)) (fun b => (ok b ∨ w.heap.size ≤ b) ∧ b < w5.heap.size) w5 (a5.tmps.getD 19 undef) := by
      obtain ⟨β, ν, h⟩ := hr5
      have h19 := h.slot 19 (by decide)
      obtain ⟨v, e, hv⟩ : VR Go.Proofs.Try.prog _ w5 _ β ν (.val (bools (Sp.bits n k))) [a5.tmps.getD 19 undef] := h19
      simp only [List.cons.injEq, and_true] at e
      rw [e]
      refine RV_mono (fun b hb => ⟨⟨?_, hb.2.1⟩, rfl⟩) (Nat.le_refl _) hv
      rcases hb.1 with h1 | h1 | h1
      · rw [hXo] at h1; exact .inl h1
      · rw [hXw] at h1; exact .inr h1
      · exact absurd h1 (hXb b)
    have e17 : a5.tmps[17]? = some (.bool true) := by
      have h := t17
      rw [Array.getD_eq_getD_getElem?, Array.getElem?_eq_getElem (by omega)] at h
      rw [Array.getElem?_eq_getElem (by omega)]
      simpa using h
    rw [wpOpsIn_cons]
    refine wpOpIn_yield rfl rfl (by simp [Region.wanted, yielded, e17]) (by show a5.tmps.getD 18 undef = _; rw [t18, ← hyv]) rfl (hY k w w5 _ hlt hy hj hB5 hv5) ?_
    rintro e w6 ⟨hor, hsz, hkeep⟩
    have hput : ∀ t b, t ≠ 20 → (a5.put (some 20) (.bool b)).tmps.getD t undef = a5.tmps.getD t undef := fun t b h => put_get_ne a5 _ h
    have hput2 : ∀ b, (a5.put (some 20) (.bool b)).tmps.getD 20 undef = .bool b := fun b => put_get_same _ (by rw [a5n]; decide)
    have abool : ∀ (ok : Nat → Prop) W1 (b : Bool), ARel Go.Proofs.Try.prog ok W1 (.val (.bool b)) (.bool b) := fun ok W1 b => ⟨_, rfl, rfl, rfl⟩
    rcases hor with ⟨rfl, hj6⟩ | ⟨rfl, hjx⟩
    · refine ⟨true, rfl, ?_⟩
      obtain ⟨c1, c2, c3⟩ := hc1 (k + 1) w6 hj6
      obtain ⟨X7, h7n, h7w, h7o, h7b, h7d, h7k, hr7⟩ := rel_new (P := Go.Proofs.Try.prog) (n := 24) (a := a5.put (some 20) (.bool true)) c1 (by rw [put_size]; exact a5n) (by rw [put_defers]; exact a5d) [(0, .both yv .any), (1, .both v1 (.ptr (di n))), (2, .both v2 (.ptr (intss ls))), (7, iv (2 ^ n : Nat)), (8, iv k), (17, bv true), (20, bv true)] (by
        intro q hq
        simp only [List.mem_cons, List.not_mem_nil, or_false] at hq
        rcases hq with rfl | rfl | rfl | rfl | rfl | rfl | rfl
        · exact ⟨by dsimp only; omega, by rw [hput _ _ (by dsimp only; omega), t0]; exact hv0 w6⟩
        · exact ⟨by dsimp only; omega, by rw [hput _ _ (by dsimp only; omega), t1]; exact c2⟩
        · exact ⟨by dsimp only; omega, by rw [hput _ _ (by dsimp only; omega), t2]; exact c3⟩
        · exact ⟨by dsimp only; omega, by rw [hput _ _ (by dsimp only; omega), t7]; exact aint w6 _⟩
        · exact ⟨by dsimp only; omega, by rw [hput _ _ (by dsimp only; omega), t8]; exact aint w6 _⟩
        · exact ⟨by dsimp only; omega, by rw [hput _ _ (by dsimp only; omega), t17]; exact abool _ _ _⟩
        · exact ⟨by dsimp only; omega, by rw [hput2]; exact abool _ _ _⟩)
      show wpOpsIn (wd none) 0 _ _ _ (List.range' 7 2 ++ []) _ _
      refine wpOps_seg 7 2 rfl (fun s => Le Go.Proofs.Try.prog s (ofL [(0, .both yv .any), (1, .both v1 (.ptr (di n))), (2, .both v2 (.ptr (intss ls))), (7, iv (2 ^ n : Nat)), (8, iv k), (22, bv false)])) h7n (by kernel_rfl) hr7 ?_ ?_
      · skip
        refine scons (LStep.gtrue rfl rfl rfl rfl rfl (by rfl) (CStep.step (PStep.c (p_not rfl (Sees.of rfl))) rfl rfl rfl rfl)) ?_
        refine scons (CStep.step (PStep.c (p_and rfl (Sees.of rfl) (fun _ => Sees.of rfl) (Sees.of rfl))) rfl rfl rfl rfl) ?_
        refine snil ?_
        exact le_ofL ⟨rfl, rfl, rfl, rfl, rfl, rfl, trivial⟩ rfl
      intro s8 a8 w8 hle8 hr8
      have hr8 := hle8 X7 a8 w8 hr8
      have hb8 := rel_bool hr8 (t := 22) rfl rfl
      show Code.wpIn (wd none) 0 _ _ _ _ _
      refine wpIn_cond_false hb8 (wpIn_skip ?_)
      show Code.wpIn (wd none) 0 _ _ _ _ _
      have hle9 : Le Go.Proofs.Try.prog (ofL [(0, .both yv .any), (1, .both v1 (.ptr (di n))), (2, .both v2 (.ptr (intss ls))), (7, iv (2 ^ n : Nat)), (8, iv k), (22, bv false)]) (ofL [(0, .both yv .any), (1, .both v1 (.ptr (di n))), (2, .both v2 (.ptr (intss ls))), (7, iv (2 ^ n : Nat)), (8, iv k)]) := le_ofL ⟨rfl, rfl, rfl, rfl, rfl, trivial⟩ rfl
      have hr9 := hle9 X7 a8 w8 hr8
      refine region_wp (K := fun s => Le Go.Proofs.Try.prog s (ofL [(0, .both yv .any), (1, .both v1 (.ptr (di n))), (2, .both v2 (.ptr (intss ls))), (7, iv (2 ^ n : Nat)), (8, iv (k + 1 : Nat))])) h7n hr9 ?_ (by kernel_rfl) ?_
      · skip
        refine scons (CStep.step (PStep.c (p_add rfl (Sees.of rfl) (Sees.of rfl) (by omega))) rfl rfl rfl rfl) ?_
        refine scons (CStep.step (PStep.c (p_move (y := .val _) rfl (Sees.of rfl) rfl)) rfl rfl rfl rfl) ?_
        refine snil ?_
        exact le_ofL ⟨rfl, rfl, rfl, rfl, rfl, trivial⟩ rfl
      intro s8 a8 w8 hle8 hr8
      have hr8 := hle8 X7 a8 w8 hr8
      have hB8 := rel_belw (Ext.refl X7) h7b hr8
      exact ⟨2 ^ n - (k + 1), by omega, k + 1, rfl, hlt, hJs _ _ _ (by rw [h7w]; exact hj6) hB8, inv0 (k + 1) a8 w8 X7 h7n hr8 h7d⟩
    · refine ⟨false, rfl, ?_⟩
      obtain ⟨X7, h7n, h7w, h7o, h7b, h7d, h7k, hr7⟩ := rel_new (P := Go.Proofs.Try.prog) (n := 24) (a := a5.put (some 20) (.bool false)) (ok := fun _ => False) (w := w6) (fun b hb => hb.elim) (by rw [put_size]; exact a5n) (by rw [put_defers]; exact a5d) [(17, bv true), (20, bv false)] (by
        intro q hq
        simp only [List.mem_cons, List.not_mem_nil, or_false] at hq
        rcases hq with rfl | rfl
        · exact ⟨by dsimp only; omega, by rw [hput _ _ (by dsimp only; omega), t17]; exact abool _ _ _⟩
        · exact ⟨by dsimp only; omega, by rw [hput2]; exact abool _ _ _⟩)
      show wpOpsIn (wd none) 0 _ _ _ (List.range' 7 2 ++ []) _ _
      refine wpOps_seg 7 2 rfl (fun s => Le Go.Proofs.Try.prog s (ofL [(22, bv true)])) h7n (by kernel_rfl) hr7 ?_ ?_
      · skip
        refine scons (LStep.gtrue rfl rfl rfl rfl rfl (by rfl) (CStep.step (PStep.c (p_not rfl (Sees.of rfl))) rfl rfl rfl rfl)) ?_
        refine scons (CStep.step (PStep.c (p_and rfl (Sees.of rfl) (fun _ => Sees.of rfl) (Sees.of rfl))) rfl rfl rfl rfl) ?_
        refine snil ?_
        exact le_ofL ⟨rfl, trivial⟩ rfl
      intro s8 a8 w8 hle8 hr8
      have hr8 := hle8 X7 a8 w8 hr8
      have hb8 := rel_bool hr8 (t := 22) rfl rfl
      show Code.wpIn (wd none) 0 _ _ _ _ _
      refine wpIn_cond_true hb8 (wpIn_ret ?_)
      have hB8 := rel_belw (Ext.refl X7) h7b hr8
      rw [h7w] at hB8
      obtain ⟨β, ν, h1⟩ := hr8
      exact ⟨h1.defers.trans h7d, _, results_none rfl _ _ _, ⟨_, rfl⟩, .inr ⟨k, hlt, hy, hJxs _ _ _ hjx hB8⟩⟩

end Go.Um
