/- Plain facts: a parity is found in its own clauses. No condition. -/
import Derived.Test.YtofonmfoificjaaSpN
namespace Go.Um
namespace Sp

theorem sat_perm {a : List Bool} {l m : List Int} (h : l.Perm m) : sat a l = sat a m := by
  unfold sat
  rw [Bool.eq_iff_iff, List.any_eq_true, List.any_eq_true]
  exact ⟨fun ⟨x, h1, h2⟩ => ⟨x, h.mem_iff.1 h1, h2⟩, fun ⟨x, h1, h2⟩ => ⟨x, h.mem_iff.2 h1, h2⟩⟩
theorem all_nrm (a : List Bool) (ls : List (List Int)) : all a (nrm ls) = all a ls := by
  unfold all
  rw [Bool.eq_iff_iff, List.all_eq_true, List.all_eq_true]
  constructor
  · intro h x hx
    have := h (litSort x) (by unfold nrm; rw [nub_mem]; exact List.mem_map.2 ⟨x, hx, rfl⟩)
    rwa [sat_perm (litSort_perm x)] at this
  · intro h x hx
    obtain ⟨y, hy, rfl⟩ := nrm_elem hx
    rw [sat_perm (litSort_perm y)]
    exact h y hy

def parQ (vs : List Int) (a : List Bool) (j : Nat) : Bool := a.getD (vs.getD j 0 - 1).toNat false
def parHolds (p : List Int × Bool) (a : List Bool) : Bool := oddTo (parQ p.1 a) p.1.length == p.2

theorem sat_sign {vs : List Int} {a : List Bool} {q : Nat → Bool} (h : ∀ v ∈ vs, 1 ≤ v) : sat a (signTo vs q vs.length) = false ↔ ∀ j, j < vs.length → q j = parQ vs a j := by
  unfold sat
  rw [List.any_eq_false]
  have hl : ∀ j, j < vs.length → (lit a (if q j = true then -vs.getD j 0 else vs.getD j 0) = true ↔ q j ≠ parQ vs a j) := by
    intro j hj
    have h1 := h _ (getD_mem vs j 0 hj)
    unfold parQ
    cases q j
    · simp only [Bool.false_eq_true, if_false]
      rw [lit, if_pos (by omega)]
      cases a.getD (vs.getD j 0 - 1).toNat false <;> simp
    · simp only [if_true]
      rw [lit_neg (by omega), lit, if_pos (by omega)]
      cases a.getD (vs.getD j 0 - 1).toNat false <;> simp
  constructor
  · intro hh j hj
    have := hh _ (List.mem_map.2 ⟨j, List.mem_range.2 hj, rfl⟩)
    rw [hl j hj] at this
    exact Classical.not_not.1 this
  · intro hh x hx
    obtain ⟨j, hj, rfl⟩ := List.mem_map.1 hx
    have hj := List.mem_range.1 hj
    show ¬ lit a (if q j = true then _ else _) = true
    rw [hl j hj]
    exact fun h2 => h2 (hh j hj)

theorem par_holds {p : List Int × Bool} {a : List Bool} (h : ∀ v ∈ p.1, 1 ≤ v) : all a (parCl p) = parHolds p a := by
  unfold parCl
  rw [all_nrm, Bool.eq_iff_iff]
  unfold all parHolds
  rw [List.all_eq_true, beq_iff_eq]
  constructor
  · intro hh
    obtain ⟨s, hs, hb⟩ := bit_exists (parQ p.1 a) p.1.length
    refine Classical.byContradiction fun hne => ?_
    have := hh _ (clsTo_mem.2 ⟨s, hs, by rw [oddTo_congr hb]; exact hne, rfl⟩)
    rw [(sat_sign h).2 hb] at this
    cases this
  · intro hh x hx
    obtain ⟨s, hs, ho, rfl⟩ := clsTo_mem.1 hx
    by_cases hc : sat a (signTo p.1 (bit s) p.1.length) = true
    · exact hc
    · have := (sat_sign h).1 (Bool.eq_false_iff.2 hc)
      rw [oddTo_congr this, hh] at ho
      exact absurd rfl ho

theorem sign_av {vs : List Int} {q : Nat → Bool} (h : ∀ v ∈ vs, 1 ≤ v) : (signTo vs q vs.length).map av = vs := by
  apply List.ext_getElem (by simp [signTo])
  intro j h1 h2
  have h3 := h _ (List.getElem_mem h2)
  simp only [signTo, List.getElem_map, List.getElem_range]
  have e : vs.getD j 0 = vs[j] := by simp [List.getD, h2]
  rw [e]
  unfold av
  split <;> omega

theorem cls_wrong {n : Int} {p : List Int × Bool} (h : Inc n p.1) {B : Nat → Nat → Bool} {x : List Int} (hx : x ∈ clsTo p.1 p.2 B (2 ^ p.1.length)) : (wrong n x).1 = 0 := by
  obtain ⟨s, _, _, rfl⟩ := clsTo_mem.1 hx
  rw [wrong_iff]
  refine ⟨signTo_range (Nat.le_refl _) h.1, ?_⟩
  have := sign_av (q := B s) (fun v hv => (h.1 v hv).1)
  have h2 : ((signTo p.1 (B s) p.1.length).map av).Pairwise (fun x y => x ≠ y) := by
    rw [this]
    exact h.2.imp (fun h => by omega)
  rwa [List.pairwise_map] at h2

theorem wrong_perm {n : Int} {l m : List Int} (hp : l.Perm m) (h : (wrong n l).1 = 0) : (wrong n m).1 = 0 := by
  rw [wrong_iff] at *
  exact ⟨fun x hx => h.1 x (hp.mem_iff.2 hx), hp.pairwise h.2 (fun h e => h e.symm)⟩

theorem parCl_check {n : Int} {p : List Int × Bool} (hn : 0 ≤ n ∧ n ≤ 120) (h : Inc n p.1) (hl : p.1.length ≤ 8) : check n (parCl p) = (0, 0) := by
  have hp := pow256 hl
  refine check_of hn ?_ (fun x hx => ?_)
  · have h1 := nrm_len (clsTo p.1 p.2 bit (2 ^ p.1.length))
    have h2 := clsTo_len p.1 p.2 bit (2 ^ p.1.length)
    unfold parCl
    omega
  · obtain ⟨y, hy, rfl⟩ := nrm_elem hx
    refine ⟨?_, wrong_perm (litSort_perm y).symm (cls_wrong h hy)⟩
    rw [litSort_len]
    obtain ⟨s, _, _, rfl⟩ := clsTo_mem.1 hy
    rw [signTo_len]
    omega

/-! ### Found -/

theorem odd_exists (o : Bool) {n : Nat} (hn : 0 < n) : ∃ s, s < 2 ^ n ∧ oddTo (bit s) n = o := by
  obtain ⟨s, hs, hb⟩ := bit_exists (fun j => decide (j = 0) && o) n
  refine ⟨s, hs, ?_⟩
  rw [oddTo_congr hb]
  have key : ∀ i, oddTo (fun j => decide (j = 0) && o) (i + 1) = o := by
    intro i
    induction i with
    | zero => cases o <;> rfl
    | succ i ih =>
      rw [oddTo, ih]
      simp
  obtain ⟨i, rfl⟩ : ∃ i, n = i + 1 := ⟨n - 1, by omega⟩
  exact key i

theorem sign_mem {vs : List Int} {q : Nat → Bool} (h1 : ∀ v ∈ vs, 1 ≤ v) (h2 : vs.Pairwise fun x y => x < y) {j : Nat} (hj : j < vs.length) : vs.getD j 0 ∈ signTo vs q vs.length ↔ q j = false := by
  have hg : ∀ i (hi : i < vs.length), vs.getD i 0 = vs[i] := fun i hi => by simp [List.getD, hi]
  constructor
  · intro h
    obtain ⟨i, hi, e⟩ := List.mem_map.1 h
    have hi := List.mem_range.1 hi
    have p1 := h1 _ (getD_mem vs i 0 hi)
    have p2 := h1 _ (getD_mem vs j 0 hj)
    cases hq : q i with
    | true => rw [if_pos hq] at e; omega
    | false =>
      rw [if_neg (by rw [hq]; decide), hg i hi, hg j hj] at e
      have : i = j := by
        rcases Nat.lt_trichotomy i j with h3 | h3 | h3
        · have := List.pairwise_iff_getElem.1 h2 i j hi hj h3; omega
        · exact h3
        · have := List.pairwise_iff_getElem.1 h2 j i hj hi h3; omega
      rw [← this]
      exact hq
  · intro h
    refine List.mem_map.2 ⟨j, List.mem_range.2 hj, ?_⟩
    rw [if_neg (by rw [h]; decide)]

theorem sort_idem (l : List Int) : litSort (litSort l) = litSort l := sort_id (litSort_le l)

theorem find_back {n : Int} {p : List Int × Bool} (h : Inc n p.1) (h0 : p.1 ≠ []) (hl : p.1.length ≤ 8) : findP (parCl p) = [p] := by
  have hpos : 0 < p.1.length := List.length_pos_iff.2 h0
  have hv : ∀ v ∈ p.1, 1 ≤ v := fun v hv => (h.1 v hv).1
  have hset : ∀ x ∈ parCl p, lenOk x = true ∧ vset x = p.1 := by
    intro x hx
    obtain ⟨y, hy, rfl⟩ := nrm_elem hx
    obtain ⟨s, _, _, rfl⟩ := clsTo_mem.1 hy
    refine ⟨by rw [lenOk_iff, litSort_len, signTo_len]; omega, ?_⟩
    have hd : p.1.Nodup := h.2.imp (fun h => by omega)
    have hp : ((litSort (signTo p.1 (bit s) p.1.length)).map av).Perm p.1 := by
      have := (litSort_perm (signTo p.1 (bit s) p.1.length)).map av
      rwa [sign_av hv] at this
    refine inc_ext (srt_inc (hp.symm.nodup hd)) h.2 (fun v => ?_)
    show v ∈ srt _ ↔ _
    rw [srt_mem, hp.mem_iff]
  obtain ⟨s0, hs0, ho0⟩ := odd_exists (!p.2) hpos
  have hin : litSort (signTo p.1 (bit s0) p.1.length) ∈ parCl p := by
    unfold parCl nrm
    rw [nub_mem]
    exact List.mem_map.2 ⟨_, clsTo_mem.2 ⟨s0, hs0, by rw [ho0]; cases p.2 <;> decide, rfl⟩, rfl⟩
  refine lt_par.uniq (findP_sorted _) (by simp) (fun p' => ?_)
  rw [findP_mem, sets_mem, List.mem_singleton]
  constructor
  · rintro ⟨⟨x, hx, _, e⟩, hok⟩
    rw [(hset x hx).2] at e
    obtain ⟨a, o⟩ := p'
    simp only at e
    subst e
    by_cases ho : o = p.2
    · rw [ho]
    · exfalso
      obtain ⟨s, hs, hos⟩ := odd_exists p.2 hpos
      have hc : litSort (signTo p.1 (bit s) p.1.length) ∈ parCl (p.1, o) := by
        unfold parCl nrm
        rw [nub_mem]
        exact List.mem_map.2 ⟨_, clsTo_mem.2 ⟨s, hs, by rw [hos]; exact fun e => ho e.symm, rfl⟩, rfl⟩
      have h1 := List.all_eq_true.1 hok _ hc
      unfold hasC at h1
      rw [List.any_eq_true] at h1
      obtain ⟨y, hy, h2⟩ := h1
      have h2 := of_decide_eq_true h2
      obtain ⟨z, hz, rfl⟩ := nrm_elem hy
      rw [sort_idem] at h2
      obtain ⟨s', hs', ho', rfl⟩ := clsTo_mem.1 hz
      have hq : ∀ j, j < p.1.length → bit s' j = bit s j := by
        intro j hj
        have m1 := sign_mem (q := bit s) hv h.2 hj
        have m2 := sign_mem (q := bit s') hv h.2 hj
        have m3 : p.1.getD j 0 ∈ signTo p.1 (bit s') p.1.length ↔ p.1.getD j 0 ∈ signTo p.1 (bit s) p.1.length := by
          rw [← litSort_mem, ← litSort_mem (l := signTo p.1 (bit s) p.1.length), h2]
        rw [m1, m2] at m3
        cases hb : bit s' j <;> cases hb2 : bit s j <;> simp_all
      rw [oddTo_congr hq, hos] at ho'
      exact ho' rfl
  · rintro rfl
    refine ⟨⟨_, hin, hset _ hin⟩, ?_⟩
    unfold okP
    rw [List.all_eq_true]
    intro c hc
    unfold hasC
    rw [List.any_eq_true]
    refine ⟨c, hc, decide_eq_true ?_⟩
    obtain ⟨y, _, rfl⟩ := nrm_elem hc
    exact sort_idem y

theorem parCnf_ok {n : Int} {p : List Int × Bool} (h : (parCnf n p).2.2.1 = 0) : (0 ≤ n ∧ n ≤ 120) ∧ Inc n p.1 ∧ p.1.length ≤ 8 ∧ parCnf n p = (n, parCl p, 0, 0) := by
  unfold parCnf at h ⊢
  split at h
  · rename_i h1; exact absurd h h1
  · split at h
    · cases h
    · rename_i h1 h2
      rw [if_neg h1, if_neg h2]
      obtain ⟨h3, h4, _⟩ := par_one n p (Classical.not_not.1 h1)
      exact ⟨h3, h4, by omega, rfl⟩
theorem parCnf_bad {n : Int} {p : List Int × Bool} (h : (parCnf n p).2.2.1 ≠ 0) : (parCnf n p).2.1 = [] := by
  unfold parCnf at h ⊢
  split
  · rfl
  · split
    · rfl
    · rename_i h1 h2
      rw [if_neg h1, if_neg h2] at h
      exact absurd rfl h

end Sp
end Go.Um
