/- Walks of Go functions of this seat, each by its contract. No condition beyond what each theorem says. -/
import Derived.Test.YtofonmfoificjaaWNorm
import Derived.Test.YtofonmfoificjaaWSat
import Derived.Test.YtofonmfoificjaaGrid
import Derived.Test.YtofonmfoificjaaSpP
import Derived.Test.YtofonmfoificjaaU64
import Derived.Test.YtofonmfoificjaaSv2
import Derived.Test.YtofonmfoificjaaProg
import Derived.KernelRfl
set_option maxRecDepth 4000
namespace Go.Um
open Go Go.RowKit

theorem wFew_agg138 : IsAgg Go.Proofs.Try.prog 138 false := by unfold IsAgg; kernel_rfl
theorem wFew_agg139 : IsAgg Go.Proofs.Try.prog 139 false := by unfold IsAgg; kernel_rfl
theorem wFew_agg22 : IsAgg Go.Proofs.Try.prog 22 false := by unfold IsAgg; kernel_rfl
theorem wFew_agg25 : IsAgg Go.Proofs.Try.prog 25 false := by unfold IsAgg; kernel_rfl
theorem wFew_agg3 : IsAgg Go.Proofs.Try.prog 3 false := by unfold IsAgg; kernel_rfl
theorem wFew_byt138 : Bytes Go.Proofs.Try.prog 138 24 := by unfold Bytes; kernel_rfl
theorem wFew_byt139 : Bytes Go.Proofs.Try.prog 139 8 := by unfold Bytes; kernel_rfl
theorem wFew_fld24_0 : IsField Go.Proofs.Try.prog 24 0 0 3 := by unfold IsField; kernel_rfl
theorem wFew_fld24_1 : IsField Go.Proofs.Try.prog 24 1 1 22 := by unfold IsField; kernel_rfl
theorem wFew_isf67 : IsFn Go.Proofs.Try.prog 67 := by unfold IsFn; kernel_rfl
theorem wFew_isf72 : IsFn Go.Proofs.Try.prog 72 := by unfold IsFn; kernel_rfl
theorem wFew_isl109 : IsSlice Go.Proofs.Try.prog 109 138 := by unfold IsSlice; kernel_rfl
theorem wFew_isl138 : IsSlice Go.Proofs.Try.prog 138 139 := by unfold IsSlice; kernel_rfl
theorem wFew_isl22 : IsSlice Go.Proofs.Try.prog 22 25 := by unfold IsSlice; kernel_rfl
theorem wFew_mix : (Go.Proofs.Try.prog).follows .mixedOrders = true := by kernel_rfl
theorem wFew_siz138 : Size Go.Proofs.Try.prog 138 1 := by unfold Size; kernel_rfl
theorem wFew_siz139 : Size Go.Proofs.Try.prog 139 1 := by unfold Size; kernel_rfl
theorem wFew_siz22 : Size Go.Proofs.Try.prog 22 1 := by unfold Size; kernel_rfl
theorem wFew_siz25 : Size Go.Proofs.Try.prog 25 1 := by unfold Size; kernel_rfl
theorem wFew_siz3 : Size Go.Proofs.Try.prog 3 1 := by unfold Size; kernel_rfl
theorem wFew_zer138 : Zero Go.Proofs.Try.prog 138 (.slice none 0 0) := by unfold Zero; kernel_rfl
theorem wFew_zer139 : Zero Go.Proofs.Try.prog 139 (.int .u64 0) := by unfold Zero; kernel_rfl

theorem open_spec (n : Nat) (ls : List (List Int)) (inn : Nat → Bool) (hn : n ≤ 16) :
    Spec Go.Proofs.Try.prog 85 [.val (wdss (Sp.setsD n ls)), iv n, .val (.fn (α := { i : Nat // i < ls.length }) (fun i => .cons (di i.1) .nil) (fun i => .bool (inn i.1)))] (D.bool (Sp.canHold n ls inn)) := by
  refine spec_of' Go.Proofs.Try.func85 rfl Go.Proofs.Try.ntmps85 rfl ?_
  refine f_seq ?_
  have hp16 : 2 ^ n ≤ 65536 := Nat.pow_le_pow_right (n := 2) (by decide) hn
  have hpw := Sp.pow_ok (m := n) (by omega)
  have hpn := Sp.pow_nat n
  have hsl := Sp.setsD_len n ls
  have hwc : Sp.wcnt n = (2 ^ n + 63) / 64 := rfl
  refine f_wf (.tmp 0) rfl (fun hwf => ?_) (by simp)
  have hlen : (Sp.setsD n ls).length ≤ 140737488355328 := hwf.1
  clear hwf
  refine f_region ?_
  refine scons (CStep.step (PStep.c (p_assign (y := .val _) rfl (Sees.of rfl) rfl)) rfl rfl rfl rfl) ?_
  refine snil ?_
  refine f_seq ?_
  refine f_seq ?_
  refine f_region ?_
  refine scons (CStep.step (PStep.c (p_move (y := .val _) rfl (Sees.of rfl) rfl)) rfl rfl rfl rfl) ?_
  refine scons (CStep.step (PStep.c (p_shl rfl (Sees.of rfl) (Sees.of rfl) (by omega) (by omega) (by first | omega | assumption))) rfl rfl rfl rfl) ?_
  rw [hpn]
  refine scons (CStep.step (PStep.c (p_add rfl (Sees.of rfl) (Sees.of rfl) (by omega))) rfl rfl rfl rfl) ?_
  refine scons (CStep.step (PStep.c (p_quo rfl (Sees.of rfl) (Sees.of rfl) (by omega) (by omega))) rfl rfl rfl rfl) ?_
  refine scons (CStep.step (PStep.c (p_move (y := .val _) rfl (Sees.of rfl) rfl)) rfl rfl rfl rfl) ?_
  refine snil ?_
  refine f_block ?_
  refine f_loop (α := Nat) (fun w => w ≤ Sp.wcnt n ∧ ∀ v, v < w → Sp.openTo n ls inn v ls.length = 0) (fun w => [(14, iv w), (13, iv (Sp.wcnt n : Nat)), (0, .val (wdss (Sp.setsD n ls))), (1, iv n), (2, .val (.fn (α := { i : Nat // i < ls.length }) (fun i => .cons (di i.1) .nil) (fun i => .bool (inn i.1))))]) (fun w => Sp.wcnt n - w) 0 ?_ ?_ ?_
  · exact ⟨Nat.zero_le _, fun v hv => absurd hv (Nat.not_lt_zero _)⟩
  · exact le_ofL ⟨rfl, (by show AV.val (.int .i64 ((((2 ^ n : Nat) : Int) + 63) / 64)) = _; exact congrArg (fun q => AV.val (.int .i64 q)) (by omega)), rfl, rfl, rfl, trivial⟩ rfl
  · rintro w ⟨hw, hp⟩
    refine f_seq ?_
    refine f_region ?_
    refine scons (CStep.step (PStep.c (p_lss rfl (Sees.of rfl) (Sees.of rfl))) rfl rfl rfl rfl) ?_
    refine snil ?_
    refine f_seq ?_
    refine f_cond rfl ?_ ?_
    · intro hc1
      try simp only [bs] at hc1
      refine f_skip ?_
      refine f_seq ?_
      refine f_block ?_
      refine f_seq ?_
      refine f_region ?_
      refine scons (CStep.step (PStep.c (p_move (y := .val _) rfl (Sees.of rfl) rfl)) rfl rfl rfl rfl) ?_
      refine scons (CStep.step (PStep.c (p_assign (y := .val _) rfl (Sees.of rfl) rfl)) rfl rfl rfl rfl) ?_
      refine snil ?_
      refine f_seq ?_
      refine f_region ?_
      refine scons (CStep.step (PStep.c (p_assign (y := .val _) rfl (Sees.of rfl) rfl)) rfl rfl rfl rfl) ?_
      refine snil ?_
      refine f_seq ?_
      refine f_seq ?_
      refine f_region ?_
      refine scons (CStep.step (PStep.c (p_move (y := .val _) rfl (Sees.of rfl) rfl)) rfl rfl rfl rfl) ?_
      refine scons (CStep.step (PStep.c (p_lss rfl (Sees.of rfl) (Sees.of rfl))) rfl rfl rfl rfl) ?_
      refine snil ?_
      refine f_cond rfl ?_ ?_
      · intro hc2
        try simp only [bs] at hc2
        have h32 : 2 ^ n ≤ 32 := Nat.pow_le_pow_right (n := 2) (by decide) (show n ≤ 5 by omega)
        have h2q : 2 ^ 2 ^ n ≤ 2 ^ 32 := Nat.pow_le_pow_right (n := 2) (by decide) h32
        have h2p : 0 < 2 ^ 2 ^ n := Nat.two_pow_pos _
        have h232 : (2 : Nat) ^ 32 = 4294967296 := rfl
        rw [h232] at h2q
        refine f_region ?_
        refine scons (CStep.step (PStep.c (p_move (y := .val _) rfl (Sees.of rfl) rfl)) rfl rfl rfl rfl) ?_
        refine scons (CStep.step (PStep.c (p_shlU rfl (Sees.of rfl) (Sees.of rfl) (by omega))) rfl rfl rfl rfl) ?_
        refine scons (CStep.step (PStep.c (p_shlU rfl (Sees.of rfl) (Sees.of rfl) (by omega))) rfl rfl rfl rfl) ?_
        refine scons (CStep.step (PStep.c (p_subU rfl (Sees.of rfl) (Sees.of rfl) (by omega))) rfl rfl rfl rfl) ?_
        refine scons (CStep.step (PStep.c (p_assign (y := .val _) rfl (Sees.of rfl) rfl)) rfl rfl rfl rfl) ?_
        refine snil ?_
        refine f_seq ?_
        refine f_seq ?_
        refine f_region ?_
        refine scons (CStep.step (PStep.c (p_move (y := .val _) rfl (Sees.of rfl) rfl)) rfl rfl rfl rfl) ?_
        refine scons (CStep.step (PStep.c (p_len rfl wFew_isl109 (Sees.of rfl))) rfl rfl rfl rfl) ?_
        refine scons (CStep.step (PStep.c (p_move (y := .val _) rfl (Sees.of rfl) rfl)) rfl rfl rfl rfl) ?_
        refine snil ?_
        refine f_block ?_
        refine f_loop (α := Nat) (fun i => i ≤ ls.length) (fun i => [(25, iv i), (24, iv ls.length), (8, .val (.int .u64 (((Sp.openTo n ls inn w i) : Nat) : Int))), (7, iv w), (0, .val (wdss (Sp.setsD n ls))), (1, iv n), (2, .val (.fn (α := { i : Nat // i < ls.length }) (fun i => .cons (di i.1) .nil) (fun i => .bool (inn i.1)))), (13, iv (Sp.wcnt n : Nat)), (14, iv w)]) (fun i => ls.length - i) 0 ?_ ?_ ?_
        · exact Nat.zero_le _
        · exact le_ofL ⟨rfl, (by show AV.val (.int .i64 ((Sp.setsD n ls).length : Int)) = _; rw [hsl]), (by first | (show AV.val (.int .u64 18446744073709551615) = _; rw [Sp.openTo, Sp.full, if_neg (by omega)]; rfl) | (show AV.val (.int .u64 (((2 ^ 2 ^ n : Nat) : Int) - 1)) = _; rw [Sp.openTo, Sp.full, if_pos (by omega)]; exact congrArg (fun q => AV.val (.int .u64 q)) (by omega))), rfl, rfl, rfl, rfl, rfl, rfl, trivial⟩ rfl
        · rintro i hi
          refine f_seq ?_
          refine f_region ?_
          refine scons (CStep.step (PStep.c (p_lss rfl (Sees.of rfl) (Sees.of rfl))) rfl rfl rfl rfl) ?_
          refine snil ?_
          refine f_seq ?_
          refine f_cond rfl ?_ ?_
          · intro hc3
            try simp only [bs] at hc3
            refine f_skip ?_
            refine f_seq ?_
            refine f_block ?_
            refine f_seq ?_
            refine f_region ?_
            refine scons (CStep.step (PStep.c (p_move (y := .val _) rfl (Sees.of rfl) rfl)) rfl rfl rfl rfl) ?_
            refine scons (CStep.step (PStep.c (p_assign (y := .val _) rfl (Sees.of rfl) rfl)) rfl rfl rfl rfl) ?_
            refine snil ?_
            refine f_seq ?_
            refine f_region ?_
            refine scons (CStep.step (PStep.c (p_move (y := .val _) rfl (Sees.of rfl) rfl)) rfl rfl rfl rfl) ?_
            refine scons (CStep.step (PStep.c (p_move (y := .val _) rfl (Sees.of rfl) rfl)) rfl rfl rfl rfl) ?_
            refine scons (CStep.step (c_callV (q := false) (⟨i, by omega⟩) rfl (Sees.of rfl) rfl (sa_cons (sh_of (Sees.of rfl) rfl) (sa_nil)) rfl) rfl rfl rfl rfl) ?_
            refine snil ?_
            refine f_cond rfl ?_ ?_
            · intro hc4
              try simp only [bs] at hc4
              have hgw := Sp.setsD_word (n := n) (ls := ls) (i := i) (w := w) (by omega) (by omega)
              have hgl : ((Sp.setsD n ls).getD i []).length = Sp.wcnt n := by rw [Sp.setsD_at (by omega), Sp.wrds_len]
              refine f_region ?_
              refine scons (CStep.step (PStep.c (p_move (y := .val _) rfl (Sees.of rfl) rfl)) rfl rfl rfl rfl) ?_
              refine scons (CStep.step (PStep.c (p_move (y := .val _) rfl (Sees.of rfl) rfl)) rfl rfl rfl rfl) ?_
              refine scons (CStep.step (PStep.c (p_move (y := .val _) rfl (Sees.of rfl) rfl)) rfl rfl rfl rfl) ?_
              refine scons (CStep.step (PStep.c ((by first | exact p_indexN rfl wFew_isl109 wFew_siz138 (Sees.of rfl) (Sees.of rfl) (by omega) | exact p_index rfl wFew_isl109 wFew_siz138 (Sees.of rfl) (Sees.of rfl) (by omega) (by omega)))) rfl rfl rfl rfl) ?_
              refine scons (CStep.step (PStep.c (p_load rfl wFew_agg138 (Sees.of rfl) rfl)) rfl rfl rfl rfl) ?_
              refine scons (CStep.step (PStep.c (p_move (y := .val _) rfl (Sees.of rfl) rfl)) rfl rfl rfl rfl) ?_
              refine scons (CStep.step (PStep.c ((by first | exact p_indexN rfl wFew_isl138 wFew_siz139 (Sees.of rfl) (Sees.of rfl) (by rw [hgl]; omega) | exact p_index rfl wFew_isl138 wFew_siz139 (Sees.of rfl) (Sees.of rfl) (by omega) (by rw [hgl]; omega)))) rfl rfl rfl rfl) ?_
              refine scons (CStep.step (PStep.c (p_load rfl wFew_agg139 (Sees.of rfl) rfl)) rfl rfl rfl rfl) ?_
              refine scons (CStep.step (PStep.c (p_andU (a := (Sp.openTo n ls inn w i)) (b := Sp.word (Sp.satB n ls i) (2 ^ n) w) rfl (Sees.of rfl) (Sees.of (congrArg (fun q => AV.val (.int .u64 q)) hgw)) (Sp.openTo_lt _ _ _ _ _) (Sp.word_lt _ _ _))) rfl rfl rfl rfl) ?_
              refine scons (CStep.step (PStep.c (p_assign (y := .val _) rfl (Sees.of rfl) rfl)) rfl rfl rfl rfl) ?_
              refine snil ?_
              refine f_nil ?_
              show AWs _ _ _ _ _
              refine f_region ?_
              refine scons (CStep.step (PStep.c (p_add rfl (Sees.of rfl) (Sees.of rfl) (by omega))) rfl rfl rfl rfl) ?_
              refine scons (CStep.step (PStep.c (p_move (y := .val _) rfl (Sees.of rfl) rfl)) rfl rfl rfl rfl) ?_
              refine snil ?_
              refine f_back ⟨i + 1, ?_, ?_, le_ofL ⟨rfl, rfl, (by rw [Sp.openTo, if_pos hc4]; rfl), rfl, rfl, rfl, rfl, rfl, rfl, trivial⟩ rfl⟩
              · omega
              · omega
            · intro hc4
              try simp only [bs] at hc4
              refine f_skip ?_
              refine f_nil ?_
              show AWs _ _ _ _ _
              refine f_region ?_
              refine scons (CStep.step (PStep.c (p_add rfl (Sees.of rfl) (Sees.of rfl) (by omega))) rfl rfl rfl rfl) ?_
              refine scons (CStep.step (PStep.c (p_move (y := .val _) rfl (Sees.of rfl) rfl)) rfl rfl rfl rfl) ?_
              refine snil ?_
              refine f_back ⟨i + 1, ?_, ?_, le_ofL ⟨rfl, rfl, (by rw [Sp.openTo, if_neg (by rw [hc4]; decide)]; rfl), rfl, rfl, rfl, rfl, rfl, rfl, trivial⟩ rfl⟩
              · omega
              · omega
          · intro hc3
            try simp only [bs] at hc3
            refine f_exit ?_
            show AWs _ _ _ _ _
            refine f_seq ?_
            refine f_region ?_
            refine scons (CStep.step (PStep.c (p_move (y := .val _) rfl (Sees.of rfl) rfl)) rfl rfl rfl rfl) ?_
            refine scons (CStep.step (PStep.c (p_neq rfl (Sees.of rfl) (Sees.of rfl))) rfl rfl rfl rfl) ?_
            refine snil ?_
            refine f_cond rfl ?_ ?_
            · intro hc5
              try simp only [bs] at hc5
              refine f_seq ?_
              refine f_region ?_
              refine scons (CStep.step (PStep.c (p_assign (y := .val _) rfl (Sees.of rfl) rfl)) rfl rfl rfl rfl) ?_
              refine snil ?_
              refine f_ret ?_
              refine ends_ret (res_eq (res1 rfl (res_tmp rfl (Sees.of rfl))) ?_)
              rw [Sp.canHold_yes (w := w) (by omega) (by rw [show ls.length = i by omega]; omega)]
            · intro hc5
              try simp only [bs] at hc5
              refine f_skip ?_
              refine f_nil ?_
              show AWs _ _ _ _ _
              refine f_region ?_
              refine scons (CStep.step (PStep.c (p_add rfl (Sees.of rfl) (Sees.of rfl) (by omega))) rfl rfl rfl rfl) ?_
              refine scons (CStep.step (PStep.c (p_move (y := .val _) rfl (Sees.of rfl) rfl)) rfl rfl rfl rfl) ?_
              refine snil ?_
              refine f_back ⟨w + 1, ?_, ?_, le_ofL ⟨rfl, rfl, rfl, rfl, rfl, trivial⟩ rfl⟩
              · refine ⟨by omega, fun v hv => ?_⟩
                by_cases e : v = w
                · rw [e, show ls.length = i by omega]; have := hc5; omega
                · exact hp v (by omega)
              · omega
      · intro hc2
        try simp only [bs] at hc2
        refine f_skip ?_
        refine f_seq ?_
        refine f_seq ?_
        refine f_region ?_
        refine scons (CStep.step (PStep.c (p_move (y := .val _) rfl (Sees.of rfl) rfl)) rfl rfl rfl rfl) ?_
        refine scons (CStep.step (PStep.c (p_len rfl wFew_isl109 (Sees.of rfl))) rfl rfl rfl rfl) ?_
        refine scons (CStep.step (PStep.c (p_move (y := .val _) rfl (Sees.of rfl) rfl)) rfl rfl rfl rfl) ?_
        refine snil ?_
        refine f_block ?_
        refine f_loop (α := Nat) (fun i => i ≤ ls.length) (fun i => [(25, iv i), (24, iv ls.length), (8, .val (.int .u64 (((Sp.openTo n ls inn w i) : Nat) : Int))), (7, iv w), (0, .val (wdss (Sp.setsD n ls))), (1, iv n), (2, .val (.fn (α := { i : Nat // i < ls.length }) (fun i => .cons (di i.1) .nil) (fun i => .bool (inn i.1)))), (13, iv (Sp.wcnt n : Nat)), (14, iv w)]) (fun i => ls.length - i) 0 ?_ ?_ ?_
        · exact Nat.zero_le _
        · exact le_ofL ⟨rfl, (by show AV.val (.int .i64 ((Sp.setsD n ls).length : Int)) = _; rw [hsl]), (by first | (show AV.val (.int .u64 18446744073709551615) = _; rw [Sp.openTo, Sp.full, if_neg (by omega)]; rfl) | (show AV.val (.int .u64 (((2 ^ 2 ^ n : Nat) : Int) - 1)) = _; rw [Sp.openTo, Sp.full, if_pos (by omega)]; exact congrArg (fun q => AV.val (.int .u64 q)) (by omega))), rfl, rfl, rfl, rfl, rfl, rfl, trivial⟩ rfl
        · rintro i hi
          refine f_seq ?_
          refine f_region ?_
          refine scons (CStep.step (PStep.c (p_lss rfl (Sees.of rfl) (Sees.of rfl))) rfl rfl rfl rfl) ?_
          refine snil ?_
          refine f_seq ?_
          refine f_cond rfl ?_ ?_
          · intro hc6
            try simp only [bs] at hc6
            refine f_skip ?_
            refine f_seq ?_
            refine f_block ?_
            refine f_seq ?_
            refine f_region ?_
            refine scons (CStep.step (PStep.c (p_move (y := .val _) rfl (Sees.of rfl) rfl)) rfl rfl rfl rfl) ?_
            refine scons (CStep.step (PStep.c (p_assign (y := .val _) rfl (Sees.of rfl) rfl)) rfl rfl rfl rfl) ?_
            refine snil ?_
            refine f_seq ?_
            refine f_region ?_
            refine scons (CStep.step (PStep.c (p_move (y := .val _) rfl (Sees.of rfl) rfl)) rfl rfl rfl rfl) ?_
            refine scons (CStep.step (PStep.c (p_move (y := .val _) rfl (Sees.of rfl) rfl)) rfl rfl rfl rfl) ?_
            refine scons (CStep.step (c_callV (q := false) (⟨i, by omega⟩) rfl (Sees.of rfl) rfl (sa_cons (sh_of (Sees.of rfl) rfl) (sa_nil)) rfl) rfl rfl rfl rfl) ?_
            refine snil ?_
            refine f_cond rfl ?_ ?_
            · intro hc7
              try simp only [bs] at hc7
              have hgw := Sp.setsD_word (n := n) (ls := ls) (i := i) (w := w) (by omega) (by omega)
              have hgl : ((Sp.setsD n ls).getD i []).length = Sp.wcnt n := by rw [Sp.setsD_at (by omega), Sp.wrds_len]
              refine f_region ?_
              refine scons (CStep.step (PStep.c (p_move (y := .val _) rfl (Sees.of rfl) rfl)) rfl rfl rfl rfl) ?_
              refine scons (CStep.step (PStep.c (p_move (y := .val _) rfl (Sees.of rfl) rfl)) rfl rfl rfl rfl) ?_
              refine scons (CStep.step (PStep.c (p_move (y := .val _) rfl (Sees.of rfl) rfl)) rfl rfl rfl rfl) ?_
              refine scons (CStep.step (PStep.c ((by first | exact p_indexN rfl wFew_isl109 wFew_siz138 (Sees.of rfl) (Sees.of rfl) (by omega) | exact p_index rfl wFew_isl109 wFew_siz138 (Sees.of rfl) (Sees.of rfl) (by omega) (by omega)))) rfl rfl rfl rfl) ?_
              refine scons (CStep.step (PStep.c (p_load rfl wFew_agg138 (Sees.of rfl) rfl)) rfl rfl rfl rfl) ?_
              refine scons (CStep.step (PStep.c (p_move (y := .val _) rfl (Sees.of rfl) rfl)) rfl rfl rfl rfl) ?_
              refine scons (CStep.step (PStep.c ((by first | exact p_indexN rfl wFew_isl138 wFew_siz139 (Sees.of rfl) (Sees.of rfl) (by rw [hgl]; omega) | exact p_index rfl wFew_isl138 wFew_siz139 (Sees.of rfl) (Sees.of rfl) (by omega) (by rw [hgl]; omega)))) rfl rfl rfl rfl) ?_
              refine scons (CStep.step (PStep.c (p_load rfl wFew_agg139 (Sees.of rfl) rfl)) rfl rfl rfl rfl) ?_
              refine scons (CStep.step (PStep.c (p_andU (a := (Sp.openTo n ls inn w i)) (b := Sp.word (Sp.satB n ls i) (2 ^ n) w) rfl (Sees.of rfl) (Sees.of (congrArg (fun q => AV.val (.int .u64 q)) hgw)) (Sp.openTo_lt _ _ _ _ _) (Sp.word_lt _ _ _))) rfl rfl rfl rfl) ?_
              refine scons (CStep.step (PStep.c (p_assign (y := .val _) rfl (Sees.of rfl) rfl)) rfl rfl rfl rfl) ?_
              refine snil ?_
              refine f_nil ?_
              show AWs _ _ _ _ _
              refine f_region ?_
              refine scons (CStep.step (PStep.c (p_add rfl (Sees.of rfl) (Sees.of rfl) (by omega))) rfl rfl rfl rfl) ?_
              refine scons (CStep.step (PStep.c (p_move (y := .val _) rfl (Sees.of rfl) rfl)) rfl rfl rfl rfl) ?_
              refine snil ?_
              refine f_back ⟨i + 1, ?_, ?_, le_ofL ⟨rfl, rfl, (by rw [Sp.openTo, if_pos hc7]; rfl), rfl, rfl, rfl, rfl, rfl, rfl, trivial⟩ rfl⟩
              · omega
              · omega
            · intro hc7
              try simp only [bs] at hc7
              refine f_skip ?_
              refine f_nil ?_
              show AWs _ _ _ _ _
              refine f_region ?_
              refine scons (CStep.step (PStep.c (p_add rfl (Sees.of rfl) (Sees.of rfl) (by omega))) rfl rfl rfl rfl) ?_
              refine scons (CStep.step (PStep.c (p_move (y := .val _) rfl (Sees.of rfl) rfl)) rfl rfl rfl rfl) ?_
              refine snil ?_
              refine f_back ⟨i + 1, ?_, ?_, le_ofL ⟨rfl, rfl, (by rw [Sp.openTo, if_neg (by rw [hc7]; decide)]; rfl), rfl, rfl, rfl, rfl, rfl, rfl, trivial⟩ rfl⟩
              · omega
              · omega
          · intro hc6
            try simp only [bs] at hc6
            refine f_exit ?_
            show AWs _ _ _ _ _
            refine f_seq ?_
            refine f_region ?_
            refine scons (CStep.step (PStep.c (p_move (y := .val _) rfl (Sees.of rfl) rfl)) rfl rfl rfl rfl) ?_
            refine scons (CStep.step (PStep.c (p_neq rfl (Sees.of rfl) (Sees.of rfl))) rfl rfl rfl rfl) ?_
            refine snil ?_
            refine f_cond rfl ?_ ?_
            · intro hc8
              try simp only [bs] at hc8
              refine f_seq ?_
              refine f_region ?_
              refine scons (CStep.step (PStep.c (p_assign (y := .val _) rfl (Sees.of rfl) rfl)) rfl rfl rfl rfl) ?_
              refine snil ?_
              refine f_ret ?_
              refine ends_ret (res_eq (res1 rfl (res_tmp rfl (Sees.of rfl))) ?_)
              rw [Sp.canHold_yes (w := w) (by omega) (by rw [show ls.length = i by omega]; omega)]
            · intro hc8
              try simp only [bs] at hc8
              refine f_skip ?_
              refine f_nil ?_
              show AWs _ _ _ _ _
              refine f_region ?_
              refine scons (CStep.step (PStep.c (p_add rfl (Sees.of rfl) (Sees.of rfl) (by omega))) rfl rfl rfl rfl) ?_
              refine scons (CStep.step (PStep.c (p_move (y := .val _) rfl (Sees.of rfl) rfl)) rfl rfl rfl rfl) ?_
              refine snil ?_
              refine f_back ⟨w + 1, ?_, ?_, le_ofL ⟨rfl, rfl, rfl, rfl, rfl, trivial⟩ rfl⟩
              · refine ⟨by omega, fun v hv => ?_⟩
                by_cases e : v = w
                · rw [e, show ls.length = i by omega]; have := hc8; omega
                · exact hp v (by omega)
              · omega
    · intro hc1
      try simp only [bs] at hc1
      refine f_exit ?_
      show AWs _ _ _ _ _
      refine f_seq ?_
      refine f_region ?_
      refine scons (CStep.step (PStep.c (p_assign (y := .val _) rfl (Sees.of rfl) rfl)) rfl rfl rfl rfl) ?_
      refine snil ?_
      refine f_ret ?_
      refine ends_ret (res_eq (res1 rfl (res_tmp rfl (Sees.of rfl))) ?_)
      rw [Sp.canHold_no (fun v hv => hp v (by omega))]

set_option maxHeartbeats 1000000 in
theorem sets_spec (n : Nat) (ls : List (List Int)) (hn : n ≤ 16) (hll : ls.length ≤ 400) (hG : ∀ l ∈ ls, Sp.Good n l) :
    Spec Go.Proofs.Try.prog 83 [.val (cnf n ls)] (wdss (Sp.setsD n ls)) := by
  refine spec_of' Go.Proofs.Try.func83 rfl Go.Proofs.Try.ntmps83 rfl ?_
  refine f_seq ?_
  have hp16 : 2 ^ n ≤ 65536 := Nat.pow_le_pow_right (n := 2) (by decide) hn
  have hpw := Sp.pow_ok (m := n) (by omega)
  have hpn := Sp.pow_nat n
  have hwc : Sp.wcnt n = (2 ^ n + 63) / 64 := rfl
  have hwi : (((2 ^ n : Nat) : Int) + 63) / 64 = ((Sp.wcnt n : Nat) : Int) := by omega
  refine f_region ?_
  refine scons (r_box (ob := 10001) rfl (Sees.of rfl) rfl rfl rfl rfl rfl rfl) ?_
  refine scons (CStep.step (PStep.c (p_assign (y := .emp) rfl (Sees.of rfl) rfl)) rfl rfl rfl rfl) ?_
  refine snil ?_
  refine f_seq ?_
  refine f_region ?_
  refine scons (CStep.step (PStep.c (p_fieldRef rfl wFew_fld24_1 wFew_siz22 rfl (Sees.of rfl) rfl)) rfl rfl rfl rfl) ?_
  refine scons (CStep.step (PStep.c (p_loadB (y := .val _) rfl wFew_agg22 (Sees.of rfl) rfl rfl rfl rfl)) rfl rfl rfl rfl) ?_
  refine scons (CStep.step (PStep.c (p_len rfl wFew_isl22 (Sees.of rfl))) rfl rfl rfl rfl) ?_
  refine scons (r_makeB (ob := 30001) (m := ls.length) (zx := .val (wds [])) rfl wFew_isl109 wFew_siz138 wFew_byt138 wFew_zer138 rfl rfl (fun _ _ _ _ _ => ⟨_, rfl, rfl, zr_list _ _⟩) (Sees.of rfl) (by omega) (by omega) rfl rfl rfl rfl rfl) ?_
  refine scons (CStep.step (PStep.c (p_assign (y := .bsl _ _ _) rfl (Sees.of rfl) rfl)) rfl rfl rfl rfl) ?_
  refine snil ?_
  refine f_seq ?_
  refine f_seq ?_
  refine f_region ?_
  refine scons (CStep.step (PStep.c (p_move (y := .bsl _ _ _) rfl (Sees.of rfl) rfl)) rfl rfl rfl rfl) ?_
  refine scons (CStep.step (PStep.c (p_lenB rfl wFew_isl109 (Sees.of rfl) rfl)) rfl rfl rfl rfl) ?_
  refine scons (CStep.step (PStep.c (p_move (y := .val _) rfl (Sees.of rfl) rfl)) rfl rfl rfl rfl) ?_
  refine snil ?_
  refine f_block ?_
  refine f_loopG (α := Nat) (fun i => i ≤ ls.length) (fun i => grid [(15, iv i), (14, iv ls.length), (3, .bsl 30001 0 ls.length), (1, .ref 10001 0 0), (10001, .box 0 (.ccons (iv n) (.ccons (.val (intss ls)) .cnil)))] (ls.length) (fun j => if j < i then .arr 0 139 1 8 dw 0 (List.replicate (Sp.wcnt n) 0) else .any) 0 (chF (fun j => if j < i then .row (40000 + j) 0 else .val (wds [])) 0 (ls.length))) (fun i => ls.length - i) 0 ?_ ?_ ?_
  · exact Nat.zero_le _
  · exact le_grid (l := [(15, iv 0), (14, iv ls.length), (3, .bsl 30001 0 ls.length), (1, .ref 10001 0 0), (10001, .box 0 (.ccons (iv n) (.ccons (.val (intss ls)) .cnil)))]) (n := ls.length) (F := fun j => if j < 0 then .arr 0 139 1 8 dw 0 (List.replicate (Sp.wcnt n) 0) else .any) (u := 0) (B := chF (fun j => if j < 0 then .row (40000 + j) 0 else .val (wds [])) 0 ls.length) ⟨rfl, rfl, rfl, rfl, rfl, trivial⟩ rfl (by show AV.box _ _ = _; refine congrArg (AV.box _) ?_; exact chF_congr _ _ (fun t _ => by simp)) (fun o ho => by obtain ⟨t, ht, ho⟩ := chF_ment _ _ _ _ ho; simp [ment] at ho) (fun j hj => .inr (by simp)) (fun j _ => by simp [ment])
  · rintro i hi
    refine f_seq ?_
    refine f_region ?_
    refine scons (CStep.step (PStep.c (p_lss rfl (Sees.of rfl) (Sees.of rfl))) rfl rfl rfl rfl) ?_
    refine snil ?_
    refine f_seq ?_
    refine f_cond rfl ?_ ?_
    · intro hc1
      try simp only [bs] at hc1
      refine f_skip ?_
      refine f_seq ?_
      refine f_block ?_
      refine f_seq ?_
      refine f_region ?_
      refine scons (CStep.step (PStep.c (p_move (y := .val _) rfl (Sees.of rfl) rfl)) rfl rfl rfl rfl) ?_
      refine scons (CStep.step (PStep.c (p_assign (y := .val _) rfl (Sees.of rfl) rfl)) rfl rfl rfl rfl) ?_
      refine snil ?_
      refine f_region ?_
      refine scons (CStep.step (PStep.c (p_move (y := .bsl _ _ _) rfl (Sees.of rfl) rfl)) rfl rfl rfl rfl) ?_
      refine scons (CStep.step (PStep.c (p_move (y := .val _) rfl (Sees.of rfl) rfl)) rfl rfl rfl rfl) ?_
      refine scons (CStep.step (PStep.c (p_fieldRef rfl wFew_fld24_0 wFew_siz3 rfl (Sees.of rfl) rfl)) rfl rfl rfl rfl) ?_
      refine scons (CStep.step (PStep.c (p_loadB (y := .val _) rfl wFew_agg3 (Sees.of rfl) rfl rfl rfl rfl)) rfl rfl rfl rfl) ?_
      refine scons (CStep.step (PStep.c (p_shl rfl (Sees.of rfl) (Sees.of rfl) (by omega) (by omega) (by first | omega | assumption))) rfl rfl rfl rfl) ?_
      rw [hpn]
      refine scons (CStep.step (PStep.c (p_add rfl (Sees.of rfl) (Sees.of rfl) (by omega))) rfl rfl rfl rfl) ?_
      refine scons (CStep.step (PStep.c (p_quo rfl (Sees.of rfl) (Sees.of rfl) (by omega) (by omega))) rfl rfl rfl rfl) ?_
      refine scons (r_make (m := (Sp.wcnt n)) (f := dw) (z := 0) (ob := 30002) rfl wFew_isl138 wFew_siz139 wFew_byt139 wFew_zer139 rfl rfl rfl (fun _ _ => rfl) (Sees.of (by show AV.val (.int .i64 ((((2 ^ n : Nat) : Int) + 63) / 64)) = _; exact congrArg (fun q => AV.val (.int .i64 q)) hwi)) (by omega) (by omega) rfl rfl rfl rfl rfl) ?_
      refine scons (CStep.step (PStep.c (p_indexB rfl wFew_isl109 wFew_siz138 (Sees.of rfl) rfl (Sees.of rfl) (by omega))) rfl rfl rfl rfl) ?_
      refine scons (r_storeR rfl wFew_siz138 rfl rfl rfl (Sees.of rfl) rfl (by rw [chF_len]; exact blt_of (by omega)) (Sees.of rfl) rfl) ?_
      refine snil ?_
      refine f_nil ?_
      show AWs _ _ _ _ _
      refine f_region ?_
      refine scons (CStep.step (PStep.c (p_add rfl (Sees.of rfl) (Sees.of rfl) (by omega))) rfl rfl rfl rfl) ?_
      refine scons (CStep.step (PStep.c (p_move (y := .val _) rfl (Sees.of rfl) rfl)) rfl rfl rfl rfl) ?_
      refine snil ?_
      refine f_backG ⟨i + 1, ?_, ?_, Le.trans (le_grid (l := (30002, .arr 0 139 1 8 dw 0 (List.replicate (Sp.wcnt n) 0)) :: [(15, iv (i + 1 : Nat)), (14, iv ls.length), (3, .bsl 30001 0 ls.length), (1, .ref 10001 0 0), (10001, .box 0 (.ccons (iv n) (.ccons (.val (intss ls)) .cnil)))]) (n := ls.length) (F := fun j => if j < i then .arr 0 139 1 8 dw 0 (List.replicate (Sp.wcnt n) 0) else .any) (u := 0) (B := chF (fun j => if j = i then .row 30002 0 else (fun j => if j < i then .row (40000 + j) 0 else .val (wds [])) j) 0 ls.length) ⟨rfl, rfl, rfl, rfl, rfl, rfl, trivial⟩ rfl (by show AV.box _ (AV.set _ _ _) = _; rw [chF_set _ _ _ _ _ (by omega)]; refine congrArg (AV.box _) ?_; exact chF_congr _ _ (fun t _ => by simp; rfl)) (fun o ho => by
        obtain ⟨t, ht, ho⟩ := chF_ment _ _ _ _ ho
        (try dsimp only at ho)
        rw [Nat.zero_add] at ho
        by_cases e : t = i
        · rw [if_pos e] at ho; simp only [ment, List.mem_singleton] at ho; exact .inl ⟨by rw [ho]; decide, _, List.mem_cons_self .., ho.symm⟩
        · rw [if_neg e] at ho
          by_cases e2 : t < i
          · rw [if_pos e2] at ho; simp only [ment, List.mem_singleton] at ho; exact .inr ⟨t, ht, ho, (by simp only [upd_apply]; (repeat rw [if_neg (by omega)]); exact (fam_at ht))⟩
          · rw [if_neg e2] at ho; simp [ment] at ho) (fun j hj => .inl (by simp only [upd_apply]; (repeat rw [if_neg (by omega)]); exact (fam_at hj))) (fun j _ => by (try dsimp only); (repeat' split) <;> rfl)) (le_in (l := [(15, iv (i + 1 : Nat)), (14, iv ls.length), (3, .bsl 30001 0 ls.length), (1, .ref 10001 0 0), (10001, .box 0 (.ccons (iv n) (.ccons (.val (intss ls)) .cnil)))]) (m := ls.length) (u := 0) (e := 139) (by_ := 8) (g := dw) (z := 0) (xs := (List.replicate (Sp.wcnt n) 0)) (i := i) (F := fun j => if j < i then .arr 0 139 1 8 dw 0 (List.replicate (Sp.wcnt n) 0) else .any) (f := fun j => if j = i then .row 30002 0 else (fun j => if j < i then .row (40000 + j) 0 else .val (wds [])) j) (by omega) rfl rfl ⟨rfl, rfl, rfl, rfl, rfl, trivial⟩ (by simp) (by simp) (fun j _ hj o ho => by (try dsimp only at ho); rw [if_neg hj] at ho; by_cases e2 : j < i <;> simp [e2, ment] at ho; exact ho) (fun j _ => by (try dsimp only); (repeat' split) <;> rfl) (fun j => by by_cases e : j = i <;> by_cases e2 : j < i <;> simp [e, e2] <;> omega) (fun j => by by_cases e : j = i <;> by_cases e2 : j < i <;> simp [e, e2] <;> omega))⟩
      · omega
      · omega
    · intro hc1
      try simp only [bs] at hc1
      refine f_exit ?_
      show AWs _ _ _ _ _
      refine f_seq ?_
      refine f_seq ?_
      refine f_region ?_
      refine scons (CStep.step (PStep.c (p_fieldRef rfl wFew_fld24_0 wFew_siz3 rfl (Sees.of rfl) rfl)) rfl rfl rfl rfl) ?_
      refine scons (CStep.step (PStep.c (p_loadB (y := .val _) rfl wFew_agg3 (Sees.of rfl) rfl rfl rfl rfl)) rfl rfl rfl rfl) ?_
      refine scons (CStep.step (PStep.c (p_shl rfl (Sees.of rfl) (Sees.of rfl) (by omega) (by omega) (by first | omega | assumption))) rfl rfl rfl rfl) ?_
      refine scons (CStep.step (PStep.c (p_move (y := .val _) rfl (Sees.of rfl) rfl)) rfl rfl rfl rfl) ?_
      refine snil ?_
      rw [hpn]
      refine f_block ?_
      refine f_loopG (α := Nat) (fun k => k ≤ 2 ^ n) (fun k => grid [(31, iv k), (30, iv (2 ^ n : Nat)), (3, .bsl 30001 0 ls.length), (1, .ref 10001 0 0), (10001, .box 0 (.ccons (iv n) (.ccons (.val (intss ls)) .cnil)))] (ls.length) (fun j => .arr 0 139 1 8 dw 0 (Sp.wrds n ls (Sp.wcnt n) k j)) 0 (chF (fun j => .row (40000 + j) 0) 0 (ls.length))) (fun k => 2 ^ n - k) 0 ?_ ?_ ?_
      · exact Nat.zero_le _
      · exact le_grid (l := [(31, iv 0), (30, iv (2 ^ n : Nat)), (3, .bsl 30001 0 ls.length), (1, .ref 10001 0 0), (10001, .box 0 (.ccons (iv n) (.ccons (.val (intss ls)) .cnil)))]) (n := ls.length) (F := fun j => .arr 0 139 1 8 dw 0 (Sp.wrds n ls (Sp.wcnt n) 0 j)) (u := 0) (B := chF (fun j => .row (40000 + j) 0) 0 ls.length) ⟨rfl, rfl, rfl, rfl, rfl, trivial⟩ rfl (by show AV.box _ _ = _; refine congrArg (AV.box _) ?_; exact chF_congr _ _ (fun t ht => by simp; omega)) (fun o ho => by obtain ⟨t, ht, ho⟩ := chF_ment _ _ _ _ ho; simp only [ment, List.mem_singleton, Nat.zero_add] at ho; exact .inr ⟨t, ht, ho, (by simp only [upd_apply]; (repeat rw [if_neg (by omega)]); exact (fam_at ht).trans (by rw [if_pos (by omega), Sp.wrds_zero]))⟩) (fun j hj => .inl (by simp only [upd_apply]; (repeat rw [if_neg (by omega)]); exact (fam_at hj).trans (by rw [if_pos (by omega), Sp.wrds_zero]))) (fun j _ => by (try dsimp only); (repeat' split) <;> rfl)
      · rintro k hk
        refine f_seq ?_
        refine f_region ?_
        refine scons (CStep.step (PStep.c (p_lss rfl (Sees.of rfl) (Sees.of rfl))) rfl rfl rfl rfl) ?_
        refine snil ?_
        refine f_seq ?_
        refine f_cond rfl ?_ ?_
        · intro hc2
          try simp only [bs] at hc2
          refine f_skip ?_
          refine f_seq ?_
          refine f_block ?_
          refine f_seq ?_
          refine f_region ?_
          refine scons (CStep.step (PStep.c (p_move (y := .val _) rfl (Sees.of rfl) rfl)) rfl rfl rfl rfl) ?_
          refine scons (CStep.step (PStep.c (p_assign (y := .val _) rfl (Sees.of rfl) rfl)) rfl rfl rfl rfl) ?_
          refine snil ?_
          refine f_seq ?_
          refine f_region ?_
          refine scons (CStep.step (PStep.c (p_fieldRef rfl wFew_fld24_0 wFew_siz3 rfl (Sees.of rfl) rfl)) rfl rfl rfl rfl) ?_
          refine scons (CStep.step (PStep.c (p_loadB (y := .val _) rfl wFew_agg3 (Sees.of rfl) rfl rfl rfl rfl)) rfl rfl rfl rfl) ?_
          refine scons (CStep.step (PStep.c (p_move (y := .val _) rfl (Sees.of rfl) rfl)) rfl rfl rfl rfl) ?_
          refine scons (CStep.step (c_call rfl wFew_isf67 ⟨_, _, rfl, (Sees.of rfl), rfl, ⟨_, _, rfl, (Sees.of rfl), rfl, rfl⟩⟩ ((assignment_spec n k (by omega)).spec false)) rfl rfl rfl rfl) ?_
          refine scons (CStep.step (PStep.c (p_assign (y := .val _) rfl (Sees.of rfl) rfl)) rfl rfl rfl rfl) ?_
          refine snil ?_
          refine f_seq ?_
          refine f_region ?_
          refine scons (CStep.step (PStep.c (p_fieldRef rfl wFew_fld24_1 wFew_siz22 rfl (Sees.of rfl) rfl)) rfl rfl rfl rfl) ?_
          refine scons (CStep.step (PStep.c (p_loadB (y := .val _) rfl wFew_agg22 (Sees.of rfl) rfl rfl rfl rfl)) rfl rfl rfl rfl) ?_
          refine scons (CStep.step (PStep.c (p_len rfl wFew_isl22 (Sees.of rfl))) rfl rfl rfl rfl) ?_
          refine scons (CStep.step (PStep.c (p_move (y := .val _) rfl (Sees.of rfl) rfl)) rfl rfl rfl rfl) ?_
          refine snil ?_
          refine f_block ?_
          refine f_loopG (α := Nat) (fun i => i ≤ ls.length) (fun i => grid [(41, iv i), (40, iv ls.length), (39, .val (intss ls)), (6, .val (bools (Sp.bits n k))), (5, iv k), (31, iv k), (30, iv (2 ^ n : Nat)), (3, .bsl 30001 0 ls.length), (1, .ref 10001 0 0), (10001, .box 0 (.ccons (iv n) (.ccons (.val (intss ls)) .cnil)))] (ls.length) (fun j => if j < i then .arr 0 139 1 8 dw 0 (Sp.wrds n ls (Sp.wcnt n) (k + 1) j) else .arr 0 139 1 8 dw 0 (Sp.wrds n ls (Sp.wcnt n) k j)) 0 (chF (fun j => .row (40000 + j) 0) 0 (ls.length))) (fun i => ls.length - i) 0 ?_ ?_ ?_
          · exact Nat.zero_le _
          · exact le_grid (l := [(41, iv 0), (40, iv ls.length), (39, .val (intss ls)), (6, .val (bools (Sp.bits n k))), (5, iv k), (31, iv k), (30, iv (2 ^ n : Nat)), (3, .bsl 30001 0 ls.length), (1, .ref 10001 0 0), (10001, .box 0 (.ccons (iv n) (.ccons (.val (intss ls)) .cnil)))]) (n := ls.length) (F := fun j => if j < 0 then .arr 0 139 1 8 dw 0 (Sp.wrds n ls (Sp.wcnt n) (k + 1) j) else .arr 0 139 1 8 dw 0 (Sp.wrds n ls (Sp.wcnt n) k j)) (u := 0) (B := chF (fun j => .row (40000 + j) 0) 0 ls.length) ⟨rfl, rfl, rfl, rfl, rfl, rfl, rfl, rfl, rfl, rfl, trivial⟩ rfl rfl (fun o ho => by obtain ⟨t, ht, ho⟩ := chF_ment _ _ _ _ ho; simp only [ment, List.mem_singleton, Nat.zero_add] at ho; exact .inr ⟨t, ht, ho, (by simp only [upd_apply]; (repeat rw [if_neg (by omega)]); exact (fam_at ht).trans (by simp))⟩) (fun j hj => .inl (by simp only [upd_apply]; (repeat rw [if_neg (by omega)]); exact (fam_at hj).trans (by simp))) (fun j _ => by (try dsimp only); (repeat' split) <;> rfl)
          · rintro i hi
            refine f_seq ?_
            refine f_region ?_
            refine scons (CStep.step (PStep.c (p_lss rfl (Sees.of rfl) (Sees.of rfl))) rfl rfl rfl rfl) ?_
            refine snil ?_
            refine f_seq ?_
            refine f_cond rfl ?_ ?_
            · intro hc3
              try simp only [bs] at hc3
              refine f_skip ?_
              refine f_seq ?_
              refine f_block ?_
              refine f_seq ?_
              refine f_region ?_
              refine scons (CStep.step (PStep.c (p_move (y := .val _) rfl (Sees.of rfl) rfl)) rfl rfl rfl rfl) ?_
              refine scons (CStep.step (PStep.c ((by first | exact p_indexN rfl wFew_isl22 wFew_siz25 (Sees.of rfl) (Sees.of rfl) (by omega) | exact p_index rfl wFew_isl22 wFew_siz25 (Sees.of rfl) (Sees.of rfl) (by omega) (by omega)))) rfl rfl rfl rfl) ?_
              refine scons (CStep.step (PStep.c (p_load rfl wFew_agg25 (Sees.of rfl) rfl)) rfl rfl rfl rfl) ?_
              refine scons (CStep.step (PStep.c (p_assign (y := .val _) rfl (Sees.of rfl) rfl)) rfl rfl rfl rfl) ?_
              refine scons (CStep.step (PStep.c (p_assign (y := .val _) rfl (Sees.of rfl) rfl)) rfl rfl rfl rfl) ?_
              refine snil ?_
              refine f_seq ?_
              refine f_region ?_
              refine scons (CStep.step (PStep.c (p_move (y := .val _) rfl (Sees.of rfl) rfl)) rfl rfl rfl rfl) ?_
              refine scons (CStep.step (PStep.c (p_move (y := .val _) rfl (Sees.of rfl) rfl)) rfl rfl rfl rfl) ?_
              refine scons (CStep.step (c_call rfl wFew_isf72 ⟨_, _, rfl, (Sees.of rfl), rfl, ⟨_, _, rfl, (Sees.of rfl), rfl, rfl⟩⟩ (csat_spec (ls.getD i []) (Sp.bits n k) (by rw [Sp.bits_length]; exact hG _ (Sp.getD_mem ls i [] (by omega))))) rfl rfl rfl rfl) ?_
              refine snil ?_
              refine f_cond rfl ?_ ?_
              · intro hc4
                try simp only [bs] at hc4
                have hs : Sp.satB n ls i k = true := hc4
                have hkd : ((k : Int) / 64).toNat = k / 64 := by omega
                have hwa : (Sp.wrds n ls (Sp.wcnt n) k i).getD ((k : Int) / 64).toNat 0 = ((Sp.word (Sp.satB n ls i) k (k / 64) : Nat) : Int) := by rw [hkd]; exact Sp.wrds_at (by omega)
                have hp64 : 2 ^ (k % 64) < 18446744073709551616 := by
                  have h1 : 2 ^ (k % 64) ≤ 2 ^ 63 := Nat.pow_le_pow_right (by decide) (by omega)
                  have h2 : (2 : Nat) ^ 63 = 9223372036854775808 := rfl
                  omega
                refine f_le (Le.trans (le_grid (l := [(41, iv i), (40, iv ls.length), (39, .val (intss ls)), (6, .val (bools (Sp.bits n k))), (5, iv k), (31, iv k), (30, iv (2 ^ n : Nat)), (3, .bsl 30001 0 ls.length), (1, .ref 10001 0 0), (10001, .box 0 (.ccons (iv n) (.ccons (.val (intss ls)) .cnil))), (7, iv i)]) (n := ls.length) (F := fun j => if j < i then .arr 0 139 1 8 dw 0 (Sp.wrds n ls (Sp.wcnt n) (k + 1) j) else .arr 0 139 1 8 dw 0 (Sp.wrds n ls (Sp.wcnt n) k j)) (u := 0) (B := chF (fun j => .row (40000 + j) 0) 0 ls.length) ⟨rfl, rfl, rfl, rfl, rfl, rfl, rfl, rfl, rfl, rfl, rfl, trivial⟩ rfl rfl (fun o ho => by obtain ⟨t, ht, ho⟩ := chF_ment _ _ _ _ ho; simp only [ment, List.mem_singleton, Nat.zero_add] at ho; exact .inr ⟨t, ht, ho, (by simp only [upd_apply]; (repeat rw [if_neg (by omega)]); exact (fam_at ht))⟩) (fun j hj => .inl (by simp only [upd_apply]; (repeat rw [if_neg (by omega)]); exact (fam_at hj))) (fun j _ => by (try dsimp only); (repeat' split) <;> rfl)) (le_out (i := i) (e := 139) (by_ := 8) (g := dw) (z := 0) (xs := (Sp.wrds n ls (Sp.wcnt n) k i)) (F' := fun j => if j = i then .any else (fun j => if j < i then .arr 0 139 1 8 dw 0 (Sp.wrds n ls (Sp.wcnt n) (k + 1) j) else .arr 0 139 1 8 dw 0 (Sp.wrds n ls (Sp.wcnt n) k j)) j) (f' := fun j => if j = i then .row 30002 0 else (fun j => .row (40000 + j) 0) j) (by omega) rfl rfl ⟨rfl, rfl, rfl, rfl, rfl, rfl, rfl, rfl, rfl, rfl, rfl, trivial⟩ rfl (by simp) rfl (fun j _ o ho => by simpa [ment] using ho) (fun j _ => by (try dsimp only); (repeat' split) <;> rfl) (fun j => rfl) (fun j => rfl))) ?_ (by simp)
                refine f_draw wFew_mix (by kernel_rfl) ?_
                refine dcons (CStep.step (PStep.c (p_move (y := .bsl _ _ _) rfl (Sees.of rfl) rfl)) rfl rfl rfl rfl) ?_
                refine dcons (CStep.step (PStep.c (p_move (y := .val _) rfl (Sees.of rfl) rfl)) rfl rfl rfl rfl) ?_
                refine dcons (CStep.step (PStep.c (p_indexB rfl wFew_isl109 wFew_siz138 (Sees.of rfl) rfl (Sees.of rfl) (by omega))) rfl rfl rfl rfl) ?_
                refine dcons (CStep.step (PStep.c (p_loadB (y := .row 30002 0) rfl wFew_agg138 (Sees.of rfl) rfl (by rw [chF_len]; exact blt_of (by omega)) (by rw [chF_nth _ _ _ _ (by omega)]; simp) rfl)) rfl rfl rfl rfl) ?_
                refine dcons (CStep.step (PStep.c (p_move (y := .val _) rfl (Sees.of rfl) rfl)) rfl rfl rfl rfl) ?_
                refine dcons (CStep.step (PStep.c (p_quo rfl (Sees.of rfl) (Sees.of rfl) (by omega) (by omega))) rfl rfl rfl rfl) ?_
                refine dcons (CStep.step (PStep.c ((by first | exact p_indexR rfl wFew_isl138 wFew_siz139 (Sees.of rfl) rfl (Sees.of rfl) (by rw [Sp.wrds_len]; omega) | exact p_indexRZ rfl wFew_isl138 wFew_siz139 (Sees.of rfl) rfl (Sees.of rfl) (by omega) (by rw [Sp.wrds_len]; omega)))) rfl rfl rfl rfl) ?_
                refine dcons (CStep.step (PStep.c (p_loadE rfl wFew_agg139 (Sees.of rfl) rfl (by rw [Sp.wrds_len]; omega) (fun _ => rfl))) rfl rfl rfl rfl) ?_
                refine dcons (CStep.step (PStep.c (p_move (y := .val _) rfl (Sees.of rfl) rfl)) rfl rfl rfl rfl) ?_
                refine dcons (CStep.step (PStep.c (p_remN rfl (Sees.of rfl) (Sees.of rfl) (by omega) (by omega))) rfl rfl rfl rfl) ?_
                refine dcons (CStep.step (PStep.c (p_shlU (n := k % 64) rfl (Sees.of rfl) (Sees.of (congrArg (fun q => AV.val (.int .i64 q)) (show ((k : Int) % 64) = ((k % 64 : Nat) : Int) by omega))) (by omega))) rfl rfl rfl rfl) ?_
                refine dcons (CStep.step (PStep.c (p_orU (a := Sp.word (Sp.satB n ls i) k (k / 64)) (b := 2 ^ (k % 64)) rfl (Sees.of (congrArg (fun q => AV.val (.int .u64 q)) hwa)) (Sees.of rfl) (Sp.word_lt _ _ _) hp64)) rfl rfl rfl rfl) ?_
                refine dcons (CStep.step (PStep.c ((by first | exact p_indexR rfl wFew_isl138 wFew_siz139 (Sees.of rfl) rfl (Sees.of rfl) (by rw [Sp.wrds_len]; omega) | exact p_indexRZ rfl wFew_isl138 wFew_siz139 (Sees.of rfl) rfl (Sees.of rfl) (by omega) (by rw [Sp.wrds_len]; omega)))) rfl rfl rfl rfl) ?_
                refine dcons (r_storeE rfl wFew_siz139 rfl rfl rfl (Sees.of rfl) rfl (by rw [Sp.wrds_len]; omega) (Sees.of rfl) rfl) ?_
                refine dnil (by kernel_rfl) ?_
                refine f_nil ?_
                show AWs _ _ _ _ _
                refine f_region ?_
                refine scons (CStep.step (PStep.c (p_add rfl (Sees.of rfl) (Sees.of rfl) (by omega))) rfl rfl rfl rfl) ?_
                refine scons (CStep.step (PStep.c (p_move (y := .val _) rfl (Sees.of rfl) rfl)) rfl rfl rfl rfl) ?_
                refine snil ?_
                refine f_backG ⟨i + 1, ?_, ?_, Le.trans (le_grid (l := (30002, .arr 0 139 1 8 dw 0 (Sp.wrds n ls (Sp.wcnt n) (k + 1) i)) :: [(41, iv (i + 1 : Nat)), (40, iv ls.length), (39, .val (intss ls)), (6, .val (bools (Sp.bits n k))), (5, iv k), (31, iv k), (30, iv (2 ^ n : Nat)), (3, .bsl 30001 0 ls.length), (1, .ref 10001 0 0), (10001, .box 0 (.ccons (iv n) (.ccons (.val (intss ls)) .cnil)))]) (n := ls.length) (F := fun j => if j = i then .any else (fun j => if j < i then .arr 0 139 1 8 dw 0 (Sp.wrds n ls (Sp.wcnt n) (k + 1) j) else .arr 0 139 1 8 dw 0 (Sp.wrds n ls (Sp.wcnt n) k j)) j) (u := 0) (B := chF (fun j => if j = i then .row 30002 0 else (fun j => .row (40000 + j) 0) j) 0 ls.length) ⟨(by show AV.arr _ _ _ _ _ _ (List.set _ _ _) = _; rw [hkd, ← Sp.wrds_yes hs]), rfl, rfl, rfl, rfl, rfl, rfl, rfl, rfl, rfl, rfl, trivial⟩ rfl rfl (fun o ho => by
                  obtain ⟨t, ht, ho⟩ := chF_ment _ _ _ _ ho
                  (try dsimp only at ho)
                  rw [Nat.zero_add] at ho
                  by_cases e : t = i
                  · rw [if_pos e] at ho; simp only [ment, List.mem_singleton] at ho; exact .inl ⟨by rw [ho]; decide, _, List.mem_cons_self .., ho.symm⟩
                  · rw [if_neg e] at ho; simp only [ment, List.mem_singleton] at ho; exact .inr ⟨t, ht, ho, (by simp only [upd_apply]; (repeat rw [if_neg (by omega)]); exact (fam_at ht).trans (if_neg e))⟩) (fun j hj => .inl (by simp only [upd_apply]; (repeat rw [if_neg (by omega)]); exact (fam_at hj))) (fun j _ => by (try dsimp only); (repeat' split) <;> rfl)) (le_in (l := [(41, iv (i + 1 : Nat)), (40, iv ls.length), (39, .val (intss ls)), (6, .val (bools (Sp.bits n k))), (5, iv k), (31, iv k), (30, iv (2 ^ n : Nat)), (3, .bsl 30001 0 ls.length), (1, .ref 10001 0 0), (10001, .box 0 (.ccons (iv n) (.ccons (.val (intss ls)) .cnil)))]) (m := ls.length) (u := 0) (e := 139) (by_ := 8) (g := dw) (z := 0) (xs := (Sp.wrds n ls (Sp.wcnt n) (k + 1) i)) (i := i) (F := fun j => if j = i then .any else (fun j => if j < i then .arr 0 139 1 8 dw 0 (Sp.wrds n ls (Sp.wcnt n) (k + 1) j) else .arr 0 139 1 8 dw 0 (Sp.wrds n ls (Sp.wcnt n) k j)) j) (f := fun j => if j = i then .row 30002 0 else (fun j => .row (40000 + j) 0) j) (by omega) rfl rfl ⟨rfl, rfl, rfl, rfl, rfl, rfl, rfl, rfl, rfl, rfl, trivial⟩ (by simp) (by simp) (fun j _ hj o ho => by (try dsimp only at ho); rw [if_neg hj] at ho; simpa [ment] using ho) (fun j _ => by (try dsimp only); (repeat' split) <;> rfl) (fun j => by by_cases e : j = i <;> by_cases e2 : j < i <;> simp [e, e2] <;> omega) (fun j => by by_cases e : j = i <;> simp [e]))⟩
                · omega
                · omega
              · intro hc4
                try simp only [bs] at hc4
                refine f_skip ?_
                refine f_nil ?_
                show AWs _ _ _ _ _
                refine f_region ?_
                refine scons (CStep.step (PStep.c (p_add rfl (Sees.of rfl) (Sees.of rfl) (by omega))) rfl rfl rfl rfl) ?_
                refine scons (CStep.step (PStep.c (p_move (y := .val _) rfl (Sees.of rfl) rfl)) rfl rfl rfl rfl) ?_
                refine snil ?_
                have hs : Sp.satB n ls i k = false := hc4
                refine f_backG ⟨i + 1, ?_, ?_, le_grid (l := [(41, iv (i + 1 : Nat)), (40, iv ls.length), (39, .val (intss ls)), (6, .val (bools (Sp.bits n k))), (5, iv k), (31, iv k), (30, iv (2 ^ n : Nat)), (3, .bsl 30001 0 ls.length), (1, .ref 10001 0 0), (10001, .box 0 (.ccons (iv n) (.ccons (.val (intss ls)) .cnil)))]) (n := ls.length) (F := fun j => if j < (i + 1) then .arr 0 139 1 8 dw 0 (Sp.wrds n ls (Sp.wcnt n) (k + 1) j) else .arr 0 139 1 8 dw 0 (Sp.wrds n ls (Sp.wcnt n) k j)) (u := 0) (B := chF (fun j => .row (40000 + j) 0) 0 ls.length) ⟨rfl, rfl, rfl, rfl, rfl, rfl, rfl, rfl, rfl, rfl, trivial⟩ rfl rfl (fun o ho => by obtain ⟨t, ht, ho⟩ := chF_ment _ _ _ _ ho; simp only [ment, List.mem_singleton, Nat.zero_add] at ho; exact .inr ⟨t, ht, ho, (by simp only [upd_apply]; (repeat rw [if_neg (by omega)]); exact (fam_at ht).trans (by by_cases e : t = i <;> by_cases e2 : t < i <;> simp [e, e2, Sp.wrds_no hs] <;> omega))⟩) (fun j hj => .inl (by simp only [upd_apply]; (repeat rw [if_neg (by omega)]); exact (fam_at hj).trans (by by_cases e : j = i <;> by_cases e2 : j < i <;> simp [e, e2, Sp.wrds_no hs] <;> omega))) (fun j _ => by (try dsimp only); (repeat' split) <;> rfl)⟩
                · omega
                · omega
            · intro hc3
              try simp only [bs] at hc3
              refine f_exit ?_
              show AWs _ _ _ _ _
              refine f_nil ?_
              show AWs _ _ _ _ _
              refine f_region ?_
              refine scons (CStep.step (PStep.c (p_add rfl (Sees.of rfl) (Sees.of rfl) (by omega))) rfl rfl rfl rfl) ?_
              refine scons (CStep.step (PStep.c (p_move (y := .val _) rfl (Sees.of rfl) rfl)) rfl rfl rfl rfl) ?_
              refine snil ?_
              refine f_backG ⟨k + 1, ?_, ?_, le_grid (l := [(31, iv (k + 1 : Nat)), (30, iv (2 ^ n : Nat)), (3, .bsl 30001 0 ls.length), (1, .ref 10001 0 0), (10001, .box 0 (.ccons (iv n) (.ccons (.val (intss ls)) .cnil)))]) (n := ls.length) (F := fun j => .arr 0 139 1 8 dw 0 (Sp.wrds n ls (Sp.wcnt n) (k + 1) j)) (u := 0) (B := chF (fun j => .row (40000 + j) 0) 0 ls.length) ⟨rfl, rfl, rfl, rfl, rfl, trivial⟩ rfl rfl (fun o ho => by obtain ⟨t, ht, ho⟩ := chF_ment _ _ _ _ ho; simp only [ment, List.mem_singleton, Nat.zero_add] at ho; exact .inr ⟨t, ht, ho, (by simp only [upd_apply]; (repeat rw [if_neg (by omega)]); exact (fam_at ht).trans (by rw [if_pos (by omega)]))⟩) (fun j hj => .inl (by simp only [upd_apply]; (repeat rw [if_neg (by omega)]); exact (fam_at hj).trans (by rw [if_pos (by omega)]))) (fun j _ => by (try dsimp only); (repeat' split) <;> rfl)⟩
              · omega
              · omega
        · intro hc2
          try simp only [bs] at hc2
          refine f_exit ?_
          show AWs _ _ _ _ _
          refine f_seq ?_
          refine f_region ?_
          refine scons (CStep.step (PStep.c (p_move (y := .bsl _ _ _) rfl (Sees.of rfl) rfl)) rfl rfl rfl rfl) ?_
          refine scons (CStep.step (PStep.c (p_assign (y := .bsl _ _ _) rfl (Sees.of rfl) rfl)) rfl rfl rfl rfl) ?_
          refine snil ?_
          refine f_ret ?_
          obtain rfl : k = 2 ^ n := by omega
          refine ends_ret (res_eq (res1 rfl (res_grid (t := 2) (rows := fun j => (Sp.wrds n ls (Sp.wcnt n) (2 ^ n) j)) rfl rfl rfl (fun j hj => (by simp only [upd_apply]; (repeat rw [if_neg (by omega)]); exact (fam_at hj))) (by omega))) ?_)
          rfl

end Go.Um
