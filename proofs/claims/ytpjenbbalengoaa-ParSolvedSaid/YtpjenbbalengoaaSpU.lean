/- Plain facts: where parities hold; how many assignments reduced rows leave. No condition. -/
import Derived.Test.YtpjenbbalengoaaSpT
import Derived.Test.YtpjenbbalengoaaSpM
namespace Go.Um
namespace Sp

def xr (β : Int → Bool) : List Int → Bool
  | [] => false
  | v :: l => β v != xr β l
theorem xr_app (β : Int → Bool) : ∀ l m : List Int, xr β (l ++ m) = (xr β l != xr β m)
  | [], m => by simp [xr]
  | v :: l, m => by
    rw [List.cons_append, xr, xr, xr_app β l m]
    cases β v <;> cases xr β l <;> cases xr β m <;> rfl
theorem xr_perm {β : Int → Bool} {l m : List Int} (h : l.Perm m) : xr β l = xr β m := by
  induction h with
  | nil => rfl
  | cons x _ ih => rw [xr, xr, ih]
  | swap x y l =>
    rw [xr, xr, xr, xr]
    cases β x <;> cases β y <;> cases xr β l <;> rfl
  | trans _ _ h1 h2 => rw [h1, h2]
theorem xr_split (β : Int → Bool) (p : Int → Bool) (l : List Int) : xr β l = (xr β (l.filter p) != xr β (l.filter fun x => !p x)) := by
  rw [← xr_app]
  exact xr_perm (List.filter_append_perm p l).symm
theorem xr_psum {n : Int} {β : Int → Bool} {a b : Pa} (ha : Inc n a.1) (hb : Inc n b.1) : xr β (psum a b).1 = (xr β a.1 != xr β b.1) := by
  have hs : ∀ x y : List Int, side x y x.length = x.filter fun z => !decide (z ∈ y) := fun x y => by unfold side; rw [List.take_length]
  have h1 : xr β (psum a b).1 = (xr β (side a.1 b.1 a.1.length) != xr β (side b.1 a.1 b.1.length)) := by
    rw [← xr_app]
    exact xr_perm (List.mergeSort_perm _ _)
  have hp : (a.1.filter fun z => decide (z ∈ b.1)).Perm (b.1.filter fun z => decide (z ∈ a.1)) := by
    refine (List.perm_ext_iff_of_nodup ((inc_nodup ha.2).filter _) ((inc_nodup hb.2).filter _)).2 (fun x => ?_)
    simp only [List.mem_filter, decide_eq_true_iff]
    exact And.comm
  rw [h1, hs, hs, xr_split β (fun z => decide (z ∈ b.1)) a.1, xr_split β (fun z => decide (z ∈ a.1)) b.1, xr_perm hp]
  cases xr β (b.1.filter fun z => decide (z ∈ a.1)) <;> cases xr β (a.1.filter fun z => !decide (z ∈ b.1)) <;> cases xr β (b.1.filter fun z => !decide (z ∈ a.1)) <;> rfl

def hold (β : Int → Bool) (p : Pa) : Prop := xr β p.1 = p.2
instance (β : Int → Bool) (p : Pa) : Decidable (hold β p) := inferInstanceAs (Decidable (xr β p.1 = p.2))
theorem hold_span {n : Int} {l : List Pa} (hl : Incs n l) {β : Int → Bool} (h : ∀ p ∈ l, hold β p) {x : Pa} (hx : Span l x) : hold β x := by
  induction hx with
  | zero => rfl
  | @add p x hp hx ih =>
    unfold hold at *
    rw [xr_psum (hl p hp) (span_inc hl hx), h p hp, ih]
    rfl
theorem hold_same {n : Int} {l m : List Pa} (hl : Incs n l) (hm : Incs n m) (h : ∀ x, Span l x ↔ Span m x) {β : Int → Bool} : (∀ p ∈ l, hold β p) ↔ ∀ p ∈ m, hold β p :=
  ⟨fun h1 p hp => hold_span hl h1 ((h p).2 (span_mem hm hp)), fun h1 p hp => hold_span hm h1 ((h p).1 (span_mem hl hp))⟩
theorem hold_no {β : Int → Bool} : ¬ hold β ([], true) := fun h => by cases h

/-! ### How many -/

theorem xr_congr {β γ : Int → Bool} : ∀ {l : List Int}, (∀ v ∈ l, β v = γ v) → xr β l = xr γ l
  | [], _ => rfl
  | v :: l, h => by rw [xr, xr, h v (List.mem_cons_self ..), xr_congr (fun y hy => h y (List.mem_cons_of_mem _ hy))]
theorem xr_flip {β γ : Int → Bool} {x : Int} (hx : γ x = !β x) (ho : ∀ v, v ≠ x → γ v = β v) : ∀ {l : List Int}, l.Nodup → xr γ l = (xr β l != decide (x ∈ l))
  | [], _ => by simp [xr]
  | v :: l, h => by
    rw [List.nodup_cons] at h
    rw [xr, xr, xr_flip hx ho h.2]
    by_cases e : v = x
    · subst e
      rw [hx, decide_eq_false h.1, decide_eq_true (List.mem_cons_self ..)]
      cases β v <;> cases xr β l <;> rfl
    · rw [ho v e, show decide (x ∈ v :: l) = decide (x ∈ l) from decide_eq_decide.2 (by rw [List.mem_cons]; exact ⟨fun h2 => h2.resolve_left (fun h3 => e h3.symm), .inr⟩)]
      cases β v <;> cases xr β l <;> cases decide (x ∈ l) <;> rfl

def bet (n w : Nat) (v : Int) : Bool := (bits n w).getD (v - 1).toNat false
theorem bits_at {n w j : Nat} (h : j < n) : (bits n w).getD j false = w.testBit (n - 1 - j) := by
  rw [Nat.testBit_eq_decide_div_mod_eq]
  simp only [bits, List.getD, List.getElem?_map, List.getElem?_range h, Option.map_some, Option.getD_some]
  refine decide_eq_decide.2 ?_
  have e : ((w : Int) / 2 ^ (n - 1 - j) % 2) = ((w / 2 ^ (n - 1 - j) % 2 : Nat) : Int) := by
    rw [Int.natCast_emod, Int.natCast_ediv, Int.natCast_pow]
    rfl
  rw [e]
  omega
theorem bet_flip {n w : Nat} {x : Int} (hx : 1 ≤ x ∧ x ≤ n) (v : Int) (hv : 1 ≤ v ∧ v ≤ n) : bet n (w ^^^ 2 ^ (n - x.toNat)) v = if v = x then !bet n w v else bet n w v := by
  unfold bet
  rw [bits_at (by omega), bits_at (by omega), Nat.testBit_xor, Nat.testBit_two_pow]
  by_cases e : v = x
  · subst e
    rw [if_pos rfl, decide_eq_true (by omega), Bool.xor_true]
  · rw [if_neg e, decide_eq_false (by omega), Bool.xor_false]
theorem xor_lt {n w b : Nat} (hw : w < 2 ^ n) (hb : b < n) : w ^^^ 2 ^ b < 2 ^ n := Nat.xor_lt_two_pow hw (Nat.pow_lt_pow_right (by decide) hb)
/-- A flip of one bit pairs the words off. -/
theorem pair_off {n b : Nat} (hb : b < n) (p q : Nat → Bool) (hp : ∀ w, w < 2 ^ n → p (w ^^^ 2 ^ b) = p w) (hq : ∀ w, w < 2 ^ n → q (w ^^^ 2 ^ b) = !q w) :
    2 * ((List.range (2 ^ n)).filter fun w => p w && q w).length = ((List.range (2 ^ n)).filter p).length := by
  have inv : ∀ w, w ^^^ 2 ^ b ^^^ 2 ^ b = w := fun w => by rw [Nat.xor_assoc, Nat.xor_self, Nat.xor_zero]
  have hperm : ((List.range (2 ^ n)).map fun w => w ^^^ 2 ^ b).Perm (List.range (2 ^ n)) := by
    refine (List.perm_ext_iff_of_nodup ?_ List.nodup_range).2 (fun x => ?_)
    · show (List.map _ _).Pairwise _
      rw [List.pairwise_map]
      exact List.nodup_range.imp (fun {a c} h e => h (by have := congrArg (fun y => y ^^^ 2 ^ b) e; simp only [inv] at this; exact this))
    · rw [List.mem_map, List.mem_range]
      constructor
      · rintro ⟨w, hw, rfl⟩; exact xor_lt (List.mem_range.1 hw) hb
      · intro hx; exact ⟨x ^^^ 2 ^ b, List.mem_range.2 (xor_lt hx hb), inv x⟩
  have h1 : ((List.range (2 ^ n)).filter fun w => p w && q w).length = ((List.range (2 ^ n)).filter fun w => p w && !q w).length := by
    rw [← (hperm.filter fun w => p w && q w).length_eq, List.filter_map, List.length_map]
    congr 1
    refine List.filter_congr (fun w hw => ?_)
    have hw := List.mem_range.1 hw
    simp only [Function.comp_apply]
    rw [hp w hw, hq w hw]
  have h2 := (List.filter_append_perm q ((List.range (2 ^ n)).filter p)).length_eq
  rw [List.length_append] at h2
  rw [List.filter_filter, List.filter_filter] at h2
  have e1 : ((List.range (2 ^ n)).filter fun w => q w && p w) = (List.range (2 ^ n)).filter fun w => p w && q w := List.filter_congr (fun w _ => Bool.and_comm ..)
  have e2 : ((List.range (2 ^ n)).filter fun w => !q w && p w) = (List.range (2 ^ n)).filter fun w => p w && !q w := List.filter_congr (fun w _ => Bool.and_comm ..)
  rw [e1, e2] at h2
  omega

def allW (n : Nat) (A : List Pa) (w : Nat) : Bool := A.all fun p => decide (xr (bet n w) p.1 = p.2)
theorem allW_iff {n w : Nat} {A : List Pa} : allW n A w = true ↔ ∀ p ∈ A, hold (bet n w) p := by
  unfold allW
  rw [List.all_eq_true]
  exact ⟨fun h p hp => of_decide_eq_true (h p hp), fun h p hp => decide_eq_true (h p hp)⟩
theorem xr_bet {n w : Nat} {x : Int} (hx : 1 ≤ x ∧ x ≤ n) {l : List Int} (hl : Inc n l) : xr (bet n (w ^^^ 2 ^ (n - x.toNat))) l = (xr (bet n w) l != decide (x ∈ l)) := by
  rw [xr_congr (γ := fun v => if v = x then !bet n w v else bet n w v) (fun v hv => bet_flip hx v (hl.1 v hv))]
  refine xr_flip (β := bet n w) (x := x) ?_ (fun v h => ?_) (inc_nodup hl.2)
  · show (if x = x then _ else _) = _
    rw [if_pos rfl]
  · show (if v = x then _ else _) = _
    rw [if_neg h]
/-- Reduced rows halve the assignments, each. -/
theorem red_count {n : Nat} : ∀ {A : List Pa}, Incs n A → (∀ p ∈ A, p.1 ≠ []) → A.Pairwise (fun x y => lead x ∉ y.1) → 2 ^ A.length * ((List.range (2 ^ n)).filter (allW n A)).length = 2 ^ n
  | [], _, _, _ => by
    rw [show (List.range (2 ^ n)).filter (allW n []) = List.range (2 ^ n) from List.filter_eq_self.2 (fun w _ => rfl), List.length_range]
    simp
  | r :: A, hi, hne, hp => by
    rw [List.pairwise_cons] at hp
    have hr := hi r (List.mem_cons_self ..)
    have hrn := hne r (List.mem_cons_self ..)
    have hx := hr.1 _ (lead_mem hrn)
    have ih := red_count (A := A) (fun p h => hi p (List.mem_cons_of_mem _ h)) (fun p h => hne p (List.mem_cons_of_mem _ h)) hp.2
    have h := pair_off (n := n) (b := n - (lead r).toNat) (by omega) (allW n A) (fun w => decide (xr (bet n w) r.1 = r.2)) (fun w _ => by
      rw [Bool.eq_iff_iff, allW_iff, allW_iff]
      have key : ∀ p ∈ A, xr (bet n (w ^^^ 2 ^ (n - (lead r).toNat))) p.1 = xr (bet n w) p.1 := fun p hp' => by
        rw [xr_bet hx (hi p (List.mem_cons_of_mem _ hp')), decide_eq_false (hp.1 p hp')]
        simp
      constructor
      · intro h p hp'
        have := h p hp'
        unfold hold at *
        rw [← key p hp']; exact this
      · intro h p hp'
        have := h p hp'
        unfold hold at *
        rw [key p hp']; exact this) (fun w _ => by
      rw [xr_bet hx hr, decide_eq_true (lead_mem hrn)]
      cases xr (bet n w) r.1 <;> cases r.2 <;> rfl)
    have e : (List.range (2 ^ n)).filter (allW n (r :: A)) = (List.range (2 ^ n)).filter fun w => allW n A w && decide (xr (bet n w) r.1 = r.2) := List.filter_congr (fun w _ => by
      show (decide _ && allW n A w) = _
      exact Bool.and_comm ..)
    rw [e, List.length_cons, Nat.pow_succ, Nat.mul_assoc, h]
    exact ih
theorem inc_le {n : Nat} {A : List Pa} (hi : Incs n A) (hne : ∀ p ∈ A, p.1 ≠ []) (hu : A.Pairwise fun x y => lead x < lead y) : A.length ≤ n := by
  have h1 : ∀ (A : List Pa) (lo : Int), (∀ p ∈ A, lo < lead p ∧ lead p ≤ n) → A.Pairwise (fun x y => lead x < lead y) → lo ≤ n → (A.length : Int) ≤ n - lo := by
    intro A
    induction A with
    | nil => intro lo _ _ h; simp; omega
    | cons r A ih =>
      intro lo hz hp hlo
      rw [List.pairwise_cons] at hp
      have h1 := hz r (List.mem_cons_self ..)
      have := ih (lead r) (fun y hy => ⟨hp.1 y hy, (hz y (List.mem_cons_of_mem _ hy)).2⟩) hp.2 (by omega)
      simp only [List.length_cons]
      omega
  have := h1 A 0 (fun p hp => by have := (hi p hp).1 _ (lead_mem (hne p hp)); omega) hu (by omega)
  omega
theorem red_pair {n : Int} {A : List Pa} (h : Red n A) : A.Pairwise fun x y => lead x ∉ y.1 := by
  rw [List.pairwise_iff_getElem]
  intro i j hi hj hij
  have h1 := h.off i j hi hj (by omega)
  rw [show A.getD i ([], false) = A[i] by simp [List.getD, hi], show A.getD j ([], false) = A[j] by simp [List.getD, hj]] at h1
  exact h1
/-- As many as the free variables leave. -/
theorem many_free {n : Nat} {A : List Pa} (h : Red n A) (hu : A.Pairwise fun x y => lead x < lead y) : A.length ≤ n ∧ ((List.range (2 ^ n)).filter (allW n A)).length = 2 ^ (n - A.length) := by
  have h1 := inc_le h.inc h.ne hu
  have h2 := red_count h.inc h.ne (red_pair h)
  refine ⟨h1, ?_⟩
  have h3 : 2 ^ n = 2 ^ A.length * 2 ^ (n - A.length) := by rw [← Nat.pow_add]; congr 1; omega
  exact Nat.eq_of_mul_eq_mul_left (Nat.two_pow_pos A.length) (h2.trans h3)

/-! ### The answer holds -/

theorem xr_zero {β : Int → Bool} : ∀ {l : List Int}, (∀ v ∈ l, β v = false) → xr β l = false
  | [], _ => rfl
  | v :: l, h => by rw [xr, h v (List.mem_cons_self ..), xr_zero (fun y hy => h y (List.mem_cons_of_mem _ hy))]; rfl
theorem asg_off {m : Nat} {Z : List Pa} {v : Int} (hv : 1 ≤ v) : ∀ k, (∀ j, j < k → 1 ≤ lead (Z.getD j ([], false))) → (∀ j, j < k → lead (Z.getD j ([], false)) ≠ v) → (asgTo m Z k).getD (v - 1).toNat false = false
  | 0, _, _ => by
    rw [asgTo, List.getD_eq_getElem?_getD, List.getElem?_replicate]
    split <;> rfl
  | k + 1, h1, h => by
    have ih := asg_off (m := m) hv k (fun j hj => h1 j (by omega)) (fun j hj => h j (by omega))
    have h2 := h k (by omega)
    have h3 := h1 k (by omega)
    rw [asgTo, List.getD_eq_getElem?_getD, List.getElem?_set_ne (by omega), ← List.getD_eq_getElem?_getD]
    exact ih
theorem asg_on {m : Nat} {Z : List Pa} {i : Nat} (hr : ∀ j, j < Z.length → 1 ≤ lead (Z.getD j ([], false)) ∧ lead (Z.getD j ([], false)) ≤ m) (hd : ∀ j, j < Z.length → j ≠ i → lead (Z.getD j ([], false)) ≠ lead (Z.getD i ([], false))) (hi : i < Z.length) :
    ∀ k, i < k → k ≤ Z.length → (asgTo m Z k).getD (lead (Z.getD i ([], false)) - 1).toNat false = (Z.getD i ([], false)).2
  | 0, h, _ => by omega
  | k + 1, h, hk => by
    have h1 := hr k (by omega)
    rw [asgTo, List.getD_eq_getElem?_getD]
    by_cases e : k = i
    · subst e
      rw [List.getElem?_set_self (by rw [asgTo_len]; omega)]
      rfl
    · have h2 := hd k (by omega) e
      have h3 := hr i hi
      rw [List.getElem?_set_ne (by omega), ← List.getD_eq_getElem?_getD]
      exact asg_on hr hd hi k (by omega) (by omega)
theorem asg_holds {m : Nat} {Z : List Pa} (h : Red m Z) : ∀ r ∈ Z, hold (fun v => (asgTo m Z Z.length).getD (v - 1).toNat false) r := by
  intro r hr
  obtain ⟨i, hi, rfl⟩ := mem_getD (z := (([], false) : Pa)) hr
  have hin := h.inc _ hr
  have hne := h.ne _ hr
  have hrange : ∀ j, j < Z.length → 1 ≤ lead (Z.getD j ([], false)) ∧ lead (Z.getD j ([], false)) ≤ m := fun j hj => by
    have hj2 := getD_mem Z j ([], false) hj
    exact (h.inc _ hj2).1 _ (lead_mem (h.ne _ hj2))
  have hdist : ∀ j, j < Z.length → j ≠ i → lead (Z.getD j ([], false)) ≠ lead (Z.getD i ([], false)) := fun j hj e h2 => h.off j i hj hi e (h2 ▸ lead_mem hne)
  have hon := asg_on hrange hdist hi Z.length hi (Nat.le_refl _)
  unfold hold
  generalize hp : Z.getD i ([], false) = p at *
  obtain ⟨l, o⟩ := p
  cases l with
  | nil => exact absurd rfl hne
  | cons x t =>
    have hx : lead (x :: t, o) = x := rfl
    have hnd := inc_nodup hin.2
    rw [List.nodup_cons] at hnd
    rw [hx] at hon
    show ((asgTo m Z Z.length).getD (x - 1).toNat false != xr _ t) = o
    rw [hon, xr_zero (fun v hv => ?_)]
    · cases o <;> rfl
    · refine asg_off (hin.1 v (List.mem_cons_of_mem _ hv)).1 _ (fun j hj => (hrange j hj).1) (fun j hj e => ?_)
      by_cases ej : j = i
      · subst ej
        rw [hp, hx] at e
        exact hnd.1 (e ▸ hv)
      · have := h.off j i hj hi ej
        rw [hp, e] at this
        exact this (List.mem_cons_of_mem _ hv)
theorem solved_case {m : Nat} {l : List Pa} (h : (parCheck m l).1 = 0) (hl : Incs m l) :
    (solveOf m l = (2, [([], true)], [], 0, 0) ∧ Span l ([], true)) ∨ ∃ Z, solveOf m l = (1, Z, asgTo m Z Z.length, 0, 0) ∧ Red m Z ∧ Z.Pairwise (fun x y => lead x < lead y) ∧ (∀ x, Span Z x ↔ Span l x) := by
  by_cases hb : ∃ i, i < l.length ∧ bad l i
  · obtain ⟨i, h1, h2, h3⟩ := first_bad _ hb
    exact .inl ⟨solveOf_no h h1 h3 h2, bad_span hl h1 h3 h2⟩
  · have hn : ∀ j, j < l.length → ¬ bad l j := fun j hj hbj => hb ⟨j, hj, hbj⟩
    obtain ⟨_, h2, h3⟩ := solve_good (n := m) hl hn
    have hp : (sortL (rowsTo l l.length)).Perm (rowsTo l l.length) := List.mergeSort_perm _ _
    refine .inr ⟨_, solveOf_yes h hn, red_perm hp h2, sortL_up h2, fun x => ?_⟩
    rw [← h3 x]
    exact ⟨span_mono (fun y hy => hp.mem_iff.1 hy), span_mono (fun y hy => hp.mem_iff.2 hy)⟩

/-- Where a parity holds, told element by element. -/
def ofA (a : List Bool) (v : Int) : Bool := a.getD (v - 1).toNat false
def holdB (p : Pa) (a : List Bool) : Bool := xr (ofA a) p.1 == p.2
theorem xr_take {β : Int → Bool} {l : List Int} {i : Nat} (hi : i < l.length) : xr β (l.take (i + 1)) = (xr β (l.take i) != β (l.getD i 0)) := by
  rw [take_getD l i 0 hi, xr_app, xr, xr]
  cases xr β (l.take i) <;> cases β (l.getD i 0) <;> rfl
theorem holdB_iff {p : Pa} {a : List Bool} : holdB p a = true ↔ hold (ofA a) p := by
  unfold holdB hold
  rw [beq_iff_eq]
theorem allB_same {n w : Nat} {A : List Pa} : (A.all fun p => holdB p (bits n w)) = allW n A w := by
  rw [Bool.eq_iff_iff, allW_iff, List.all_eq_true]
  exact ⟨fun h p hp => holdB_iff.1 (h p hp), fun h p hp => holdB_iff.2 (h p hp)⟩
def manyTo (n : Nat) (A : List Pa) (k : Nat) : Nat := ((List.range k).filter (allW n A)).length
theorem many_yes {n k : Nat} {A : List Pa} (h : allW n A k = true) : manyTo n A (k + 1) = manyTo n A k + 1 := by
  unfold manyTo
  rw [List.range_succ, List.filter_append, List.filter_cons_of_pos h, List.filter_nil, List.length_append]
  rfl
theorem many_no {n k : Nat} {A : List Pa} (h : allW n A k = false) : manyTo n A (k + 1) = manyTo n A k := by
  unfold manyTo
  rw [List.range_succ, List.filter_append, List.filter_cons_of_neg (by rw [h]; decide), List.filter_nil, List.append_nil]
theorem many_le (n : Nat) (A : List Pa) (k : Nat) : manyTo n A k ≤ k := by
  unfold manyTo
  have := List.length_filter_le (allW n A) (List.range k)
  rwa [List.length_range] at this
/-- All that is needed of an answer. -/
structure Solved (m : Nat) (l : List Pa) (S : Int × List Pa × List Bool × Int × Int) : Prop where
  st : S.1 = 1 ∨ S.1 = 2
  inc : Incs m S.2.1
  len : S.2.1.length ≤ 400
  same : ∀ w, allW m l w = allW m S.2.1 w
  no : S.1 = 2 → manyTo m l (2 ^ m) = 0 ∧ S.2.2.1 = []
  yes : S.1 = 1 → S.2.2.1.length = m ∧ (∀ p ∈ l, holdB p S.2.2.1 = true) ∧ S.2.1.length ≤ m ∧ manyTo m l (2 ^ m) = 2 ^ (m - S.2.1.length)
  code : S.2.2.2.1 = 0 ∧ S.2.2.2.2 = 0
theorem solved_all {m : Nat} {l : List Pa} (hm : m ≤ 120) (h : (parCheck m l).1 = 0) (hl : Incs m l) : Solved m l (solveOf m l) := by
  have hno : Incs m [(([], true) : Pa)] := fun p hp => by rw [List.mem_singleton.1 hp]; exact inc_nil _
  rcases solved_case h hl with ⟨e, hs⟩ | ⟨Z, e, hr, hu, hs⟩
  · rw [e]
    have hf : ∀ w, allW m l w = false := fun w => Bool.eq_false_iff.2 fun hw => hold_no (hold_span hl (allW_iff.1 hw) hs)
    refine ⟨.inr rfl, hno, by simp, fun w => ?_, fun _ => ⟨?_, rfl⟩, fun h2 => absurd h2 (by decide), rfl, rfl⟩
    · rw [hf]
      exact (Bool.eq_false_iff.2 fun hw => hold_no (allW_iff.1 hw _ (List.mem_singleton.2 rfl))).symm
    · unfold manyTo
      rw [List.filter_eq_nil_iff.2 (fun w _ => by rw [hf]; decide)]
      rfl
  · rw [e]
    have hw : ∀ w, allW m l w = allW m Z w := fun w => Bool.eq_iff_iff.2 (by rw [allW_iff, allW_iff]; exact hold_same hl hr.inc (fun x => (hs x).symm))
    have hc := many_free hr hu
    have hz : ∀ p ∈ Z, hold (ofA (asgTo m Z Z.length)) p := asg_holds hr
    refine ⟨.inl rfl, hr.inc, by have := hc.1; show Z.length ≤ 400; omega, hw, fun h2 => absurd (show (1 : Int) = 2 from h2) (by decide), fun _ => ⟨asgTo_len m Z _, fun p hp => holdB_iff.2 ((hold_same hl hr.inc (fun x => (hs x).symm)).2 hz p hp), hc.1, ?_⟩, rfl, rfl⟩
    unfold manyTo
    rw [List.filter_congr (fun w _ => hw w)]
    exact hc.2
theorem all_step {n w : Nat} {A : List Pa} {i : Nat} (hi : i < A.length) : ((A.take (i + 1)).all fun p => holdB p (bits n w)) = (((A.take i).all fun p => holdB p (bits n w)) && holdB (A.getD i ([], false)) (bits n w)) := by
  rw [take_getD A i ([], false) hi, List.all_append]
  simp
theorem solved_code {n : Int} {l : List Pa} (h : (parCheck n l).1 = 0) : (solveOf n l).2.2.2.1 = 0 := by
  rw [solveOf, if_neg (fun h2 => h2 h)]
  split
  · rfl
  · rfl

end Sp
end Go.Um
