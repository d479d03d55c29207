/- Plain facts: sums of parities, and what they span. No condition. -/
import Derived.Test.YtpjenbbalengoaaSpL
namespace Go.Um
namespace Sp
abbrev Pa := List Int × Bool
def lead (p : Pa) : Int := p.1.getD 0 0

theorem pa_ext {n : Int} {a b : Pa} (ha : Inc n a.1) (hb : Inc n b.1) (h : ∀ x, x ∈ a.1 ↔ x ∈ b.1) (h2 : a.2 = b.2) : a = b := Prod.ext (inc_ext ha.2 hb.2 h) h2
theorem inc_nil (n : Int) : Inc n ([] : List Int) := ⟨fun _ h => (nomatch h), List.Pairwise.nil⟩
theorem psum_zero {n : Int} {a : Pa} (ha : Inc n a.1) : psum a ([], false) = a := by
  refine pa_ext (n := n) (psum_inc ha (inc_nil n)) ha (fun x => ?_) ?_
  · rw [psum_mem]; simp
  · show (a.2 != false) = a.2
    simp
theorem zero_psum {n : Int} {a : Pa} (ha : Inc n a.1) : psum ([], false) a = a := by rw [psum_comm (n := n) ha (inc_nil n), psum_zero ha]
theorem psum_back {n : Int} {a b : Pa} (ha : Inc n a.1) (hb : Inc n b.1) : psum a (psum a b) = b := by
  rw [← psum_assoc ha ha hb, psum_self, zero_psum hb]
theorem psum_eq {n : Int} {a b : Pa} (ha : Inc n a.1) (hb : Inc n b.1) (h : psum a b = ([], false)) : a = b := by
  have := psum_back ha hb
  rw [h, psum_zero ha] at this
  exact this

theorem lead_mem {p : Pa} (h : p.1 ≠ []) : lead p ∈ p.1 := getD_mem p.1 0 0 (List.length_pos_iff.2 h)
theorem lead_le {n : Int} {p : Pa} (hp : Inc n p.1) {x : Int} (hx : x ∈ p.1) : lead p ≤ x := by
  obtain ⟨l, o⟩ := p
  cases l with
  | nil => cases hx
  | cons a l =>
    have h := hp.2
    rw [List.pairwise_cons] at h
    rcases List.mem_cons.1 hx with h2 | h2
    · subst h2; exact Int.le_refl _
    · exact Int.le_of_lt (h.1 x h2)
theorem lead_is {n : Int} {p : Pa} (hp : Inc n p.1) {x : Int} (hx : x ∈ p.1) (h : ∀ y ∈ p.1, x ≤ y) : lead p = x := by
  have h1 := lead_le hp hx
  have h2 := h _ (lead_mem (List.ne_nil_of_mem hx))
  omega

/-- What some parities span. -/
inductive Span (l : List Pa) : Pa → Prop
  | zero : Span l ([], false)
  | add {p x : Pa} : p ∈ l → Span l x → Span l (psum p x)

abbrev Incs (n : Int) (l : List Pa) : Prop := ∀ p ∈ l, Inc n p.1
theorem span_inc {n : Int} {l : List Pa} (hl : Incs n l) {x : Pa} (h : Span l x) : Inc n x.1 := by
  induction h with
  | zero => exact inc_nil n
  | add hp _ ih => exact psum_inc (hl _ hp) ih
theorem span_add {n : Int} {l : List Pa} (hl : Incs n l) {x y : Pa} (hx : Span l x) (hy : Span l y) : Span l (psum x y) := by
  induction hx with
  | zero => rw [zero_psum (span_inc hl hy)]; exact hy
  | @add p x hp hx ih =>
    rw [psum_assoc (hl _ hp) (span_inc hl hx) (span_inc hl hy)]
    exact .add hp ih
theorem span_mem {n : Int} {l : List Pa} (hl : Incs n l) {p : Pa} (hp : p ∈ l) : Span l p := by
  have := Span.add hp (Span.zero (l := l))
  rwa [psum_zero (hl p hp)] at this
theorem span_sub {n : Int} {l m : List Pa} (hm : Incs n m) (h : ∀ p ∈ l, Span m p) {x : Pa} (hx : Span l x) : Span m x := by
  induction hx with
  | zero => exact .zero
  | add hp _ ih => exact span_add hm (h _ hp) ih
theorem span_iff {n : Int} {l m : List Pa} (hl : Incs n l) (hm : Incs n m) (h1 : ∀ p ∈ l, Span m p) (h2 : ∀ p ∈ m, Span l p) (x : Pa) : Span l x ↔ Span m x := ⟨span_sub hm h1, span_sub hl h2⟩

/-! ### Rows in their reduced form -/

structure Red (n : Int) (A : List Pa) : Prop where
  inc : Incs n A
  ne : ∀ p ∈ A, p.1 ≠ []
  off : ∀ i j, i < A.length → j < A.length → i ≠ j → lead (A.getD i ([], false)) ∉ (A.getD j ([], false)).1

def coV (A : List Pa) (c : Nat → Bool) (v : Int) : Nat → Bool
  | 0 => false
  | k + 1 => coV A c v k != (c k && decide (v ∈ (A.getD k ([], false)).1))
def coO (A : List Pa) (c : Nat → Bool) : Nat → Bool
  | 0 => false
  | k + 1 => coO A c k != (c k && (A.getD k ([], false)).2)
def tog (c : Nat → Bool) (i : Nat) : Nat → Bool := fun j => if j = i then !c j else c j
theorem coV_tog (A : List Pa) (c : Nat → Bool) (v : Int) (i : Nat) : ∀ k, coV A (tog c i) v k = (coV A c v k != (decide (i < k) && decide (v ∈ (A.getD i ([], false)).1)))
  | 0 => by simp [coV]
  | k + 1 => by
    rw [coV, coV, coV_tog A c v i k]
    unfold tog
    by_cases e : k = i
    · subst e
      rw [if_pos rfl, decide_eq_false (Nat.lt_irrefl k), decide_eq_true (Nat.lt_succ_self k)]
      cases coV A c v k <;> cases c k <;> cases decide (v ∈ (A.getD k ([], false)).1) <;> rfl
    · rw [if_neg e, show decide (i < k + 1) = decide (i < k) from decide_eq_decide.2 (by omega)]
      cases coV A c v k <;> cases c k <;> cases decide (v ∈ (A.getD k ([], false)).1) <;> cases decide (i < k) <;> cases decide (v ∈ (A.getD i ([], false)).1) <;> rfl
theorem coO_tog (A : List Pa) (c : Nat → Bool) (i : Nat) : ∀ k, coO A (tog c i) k = (coO A c k != (decide (i < k) && (A.getD i ([], false)).2))
  | 0 => by simp [coO]
  | k + 1 => by
    rw [coO, coO, coO_tog A c i k]
    unfold tog
    by_cases e : k = i
    · subst e
      rw [if_pos rfl, decide_eq_false (Nat.lt_irrefl k), decide_eq_true (Nat.lt_succ_self k)]
      cases coO A c k <;> cases c k <;> cases (A.getD k ([], false)).2 <;> rfl
    · rw [if_neg e, show decide (i < k + 1) = decide (i < k) from decide_eq_decide.2 (by omega)]
      cases coO A c k <;> cases c k <;> cases (A.getD k ([], false)).2 <;> cases decide (i < k) <;> cases (A.getD i ([], false)).2 <;> rfl
theorem coV_off {A : List Pa} {c : Nat → Bool} (h : ∀ j, j < A.length → c j = false) (v : Int) : ∀ k, k ≤ A.length → coV A c v k = false
  | 0, _ => rfl
  | k + 1, hk => by rw [coV, coV_off h v k (by omega), h k (by omega)]; rfl
theorem coO_off {A : List Pa} {c : Nat → Bool} (h : ∀ j, j < A.length → c j = false) : ∀ k, k ≤ A.length → coO A c k = false
  | 0, _ => rfl
  | k + 1, hk => by rw [coO, coO_off h k (by omega), h k (by omega)]; rfl
theorem psum_dec {a b : Pa} (x : Int) : decide (x ∈ (psum a b).1) = (decide (x ∈ a.1) != decide (x ∈ b.1)) := by
  rw [show decide (x ∈ (psum a b).1) = decide ((x ∈ a.1 ∧ x ∉ b.1) ∨ (x ∈ b.1 ∧ x ∉ a.1)) from decide_eq_decide.2 psum_mem]
  by_cases h1 : x ∈ a.1 <;> by_cases h2 : x ∈ b.1 <;> simp [h1, h2]
theorem span_co {A : List Pa} {x : Pa} (h : Span A x) : ∃ c : Nat → Bool, (∀ v, decide (v ∈ x.1) = coV A c v A.length) ∧ x.2 = coO A c A.length := by
  induction h with
  | zero => exact ⟨fun _ => false, fun v => by rw [coV_off (fun _ _ => rfl) v _ (Nat.le_refl _)]; simp, by rw [coO_off (fun _ _ => rfl) _ (Nat.le_refl _)]⟩
  | @add p x hp _ ih =>
    obtain ⟨c, h1, h2⟩ := ih
    obtain ⟨i, hi, e⟩ := List.getElem_of_mem hp
    have e : A.getD i ([], false) = p := by rw [List.getD, List.getElem?_eq_getElem hi]; exact e
    refine ⟨tog c i, fun v => ?_, ?_⟩
    · rw [coV_tog, decide_eq_true hi, Bool.true_and, e, ← h1, psum_dec, bne_comm]
    · rw [coO_tog, decide_eq_true hi, Bool.true_and, e, ← h2]
      show (p.2 != x.2) = _
      exact bne_comm
theorem red_at {n : Int} {A : List Pa} (hA : Red n A) {c : Nat → Bool} {i : Nat} (hi : i < A.length) : ∀ k, k ≤ A.length → coV A c (lead (A.getD i ([], false))) k = (decide (i < k) && c i)
  | 0, _ => by simp [coV]
  | k + 1, hk => by
    rw [coV, red_at hA hi k (by omega)]
    by_cases e : k = i
    · subst e
      rw [decide_eq_false (Nat.lt_irrefl k), decide_eq_true (Nat.lt_succ_self k), decide_eq_true (lead_mem (hA.ne _ (getD_mem A k _ hi)))]
      cases c k <;> rfl
    · rw [decide_eq_false (hA.off i k hi (by omega) (fun h => e h.symm)), Bool.and_false, show decide (i < k + 1) = decide (i < k) from decide_eq_decide.2 (by omega)]
      simp
theorem coV_some {A : List Pa} {c : Nat → Bool} {v : Int} : ∀ k, coV A c v k = true → ∃ j, j < k ∧ c j = true ∧ v ∈ (A.getD j ([], false)).1
  | 0, h => by cases h
  | k + 1, h => by
    rw [coV] at h
    by_cases h2 : coV A c v k = true
    · obtain ⟨j, h3, h4⟩ := coV_some k h2
      exact ⟨j, by omega, h4⟩
    · rw [Bool.eq_false_iff.2 h2] at h
      have h3 : (c k && decide (v ∈ (A.getD k ([], false)).1)) = true := by
        cases h4 : (c k && decide (v ∈ (A.getD k ([], false)).1))
        · rw [h4] at h; cases h
        · rfl
      rw [Bool.and_eq_true, decide_eq_true_iff] at h3
      exact ⟨k, by omega, h3⟩
/-- A sum of rows that holds no leader is none. -/
theorem red_none {n : Int} {A : List Pa} (hA : Red n A) {x : Pa} (h : Span A x) (hn : ∀ a ∈ A, lead a ∉ x.1) : x = ([], false) := by
  obtain ⟨c, h1, h2⟩ := span_co h
  have hc : ∀ j, j < A.length → c j = false := fun j hj => by
    have h3 := h1 (lead (A.getD j ([], false)))
    rw [red_at hA hj _ (Nat.le_refl _), decide_eq_true hj, Bool.true_and, decide_eq_false (hn _ (getD_mem A j _ hj))] at h3
    exact h3.symm
  refine Prod.ext ?_ (by rw [h2, coO_off hc _ (Nat.le_refl _)])
  refine List.eq_nil_iff_forall_not_mem.2 (fun v hv => ?_)
  have h3 := h1 v
  rw [coV_off hc v _ (Nat.le_refl _), decide_eq_true hv] at h3
  cases h3
theorem red_lead {n : Int} {A : List Pa} (hA : Red n A) {x : Pa} (h : Span A x) (hx : x.1 ≠ []) : ∃ a ∈ A, lead x = lead a := by
  obtain ⟨c, h1, _⟩ := span_co h
  have h3 := h1 (lead x)
  rw [decide_eq_true (lead_mem hx)] at h3
  obtain ⟨j, hj, hc, hm⟩ := coV_some _ h3.symm
  have h4 := h1 (lead (A.getD j ([], false)))
  rw [red_at hA hj _ (Nat.le_refl _), decide_eq_true hj, hc, Bool.and_true, decide_eq_true_iff] at h4
  have ha := getD_mem A j ([], false) hj
  refine ⟨_, ha, ?_⟩
  have h5 := lead_le (span_inc hA.inc h) h4
  have h6 := lead_le (hA.inc _ ha) hm
  omega
theorem red_same {n : Int} {A B : List Pa} (hA : Red n A) (hB : Red n B) (hs : ∀ x, Span A x ↔ Span B x) {a : Pa} (ha : a ∈ A) : a ∈ B := by
  obtain ⟨b, hb, e⟩ := red_lead hB ((hs a).1 (span_mem hA.inc ha)) (hA.ne a ha)
  have hd : Span A (psum a b) := span_add hA.inc (span_mem hA.inc ha) ((hs b).2 (span_mem hB.inc hb))
  have := red_none hA hd (fun a' ha' hm => ?_)
  · rw [psum_eq (hA.inc a ha) (hB.inc b hb) this]; exact hb
  · obtain ⟨i, hi, ei⟩ := List.getElem_of_mem ha
    obtain ⟨j, hj, ej⟩ := List.getElem_of_mem ha'
    have ei : A.getD i ([], false) = a := by rw [List.getD, List.getElem?_eq_getElem hi]; exact ei
    have ej : A.getD j ([], false) = a' := by rw [List.getD, List.getElem?_eq_getElem hj]; exact ej
    rw [psum_mem] at hm
    by_cases eij : j = i
    · subst eij
      rw [ei] at ej
      subst ej
      rcases hm with hm | hm
      · exact hm.2 (e ▸ lead_mem (hB.ne b hb))
      · exact hm.2 (lead_mem (hA.ne a ha))
    · have h1 := hA.off j i hj hi eij
      rw [ei, ej] at h1
      have h2 : lead a' ∈ b.1 := hm.elim (fun h => absurd h.1 h1) (fun h => h.1)
      obtain ⟨b', hb', e'⟩ := red_lead hB ((hs a').1 (span_mem hA.inc ha')) (hA.ne a' ha')
      obtain ⟨k, hk, ek⟩ := List.getElem_of_mem hb
      obtain ⟨m, hm', em⟩ := List.getElem_of_mem hb'
      have ek : B.getD k ([], false) = b := by rw [List.getD, List.getElem?_eq_getElem hk]; exact ek
      have em : B.getD m ([], false) = b' := by rw [List.getD, List.getElem?_eq_getElem hm']; exact em
      by_cases ekm : m = k
      · subst ekm
        rw [ek] at em
        subst em
        rw [e', ← e] at h1
        exact h1 (lead_mem (hA.ne a ha))
      · have h3 := hB.off m k hm' hk ekm
        rw [ek, em] at h3
        exact h3 (e' ▸ h2)
theorem lead_ext : ∀ {A B : List Pa}, A.Pairwise (fun x y => lead x < lead y) → B.Pairwise (fun x y => lead x < lead y) → (∀ x, x ∈ A ↔ x ∈ B) → A = B
  | [], [], _, _, _ => rfl
  | [], b :: B, _, _, h => nomatch (h b).2 (List.mem_cons_self ..)
  | a :: A, [], _, _, h => nomatch (h a).1 (List.mem_cons_self ..)
  | a :: A, b :: B, hA, hB, h => by
    rw [List.pairwise_cons] at hA hB
    have e : a = b := by
      rcases List.mem_cons.1 ((h a).1 (List.mem_cons_self ..)) with h1 | h1
      · exact h1
      · rcases List.mem_cons.1 ((h b).2 (List.mem_cons_self ..)) with h2 | h2
        · exact h2.symm
        · have := hA.1 b h2
          have := hB.1 a h1
          omega
    subst e
    congr 1
    refine lead_ext hA.2 hB.2 (fun x => ?_)
    have hx := h x
    rw [List.mem_cons, List.mem_cons] at hx
    constructor
    · intro h1
      rcases hx.1 (.inr h1) with h2 | h2
      · subst h2; have := hA.1 x h1; omega
      · exact h2
    · intro h1
      rcases hx.2 (.inr h1) with h2 | h2
      · subst h2; have := hB.1 x h1; omega
      · exact h2

/-! ### One row more -/

def redTo (rows : List Pa) (p : Pa) : Nat → Pa
  | 0 => p
  | j + 1 => if lead (rows.getD j ([], false)) ∈ (redTo rows p j).1 then psum (redTo rows p j) (rows.getD j ([], false)) else redTo rows p j
def clrV (v : Int) (p r : Pa) : Pa := if v ∈ r.1 then psum r p else r
def clr (rows : List Pa) (p : Pa) : List Pa := rows.map (clrV (lead p) p)
def rowsTo (l : List Pa) : Nat → List Pa
  | 0 => []
  | i + 1 => if (redTo (rowsTo l i) (l.getD i ([], false)) (rowsTo l i).length).1 = [] then rowsTo l i
    else clr (rowsTo l i) (redTo (rowsTo l i) (l.getD i ([], false)) (rowsTo l i).length) ++ [redTo (rowsTo l i) (l.getD i ([], false)) (rowsTo l i).length]
def bad (l : List Pa) (i : Nat) : Prop := redTo (rowsTo l i) (l.getD i ([], false)) (rowsTo l i).length = ([], true)

theorem redTo_span {n : Int} {rows : List Pa} {p : Pa} (hr : Incs n rows) (hp : Inc n p.1) : ∀ j, j ≤ rows.length → Inc n (redTo rows p j).1 ∧ Span rows (psum p (redTo rows p j))
  | 0, _ => ⟨hp, by rw [redTo, psum_self]; exact .zero⟩
  | j + 1, hj => by
    obtain ⟨h1, h2⟩ := redTo_span hr hp j (by omega)
    have hm := getD_mem rows j ([], false) (by omega)
    rw [redTo]
    split
    · refine ⟨psum_inc h1 (hr _ hm), ?_⟩
      rw [← psum_assoc hp h1 (hr _ hm)]
      exact span_add hr h2 (span_mem hr hm)
    · exact ⟨h1, h2⟩
theorem redTo_off {n : Int} {rows : List Pa} {p : Pa} (hr : Red n rows) : ∀ j, j ≤ rows.length → ∀ i, i < j → lead (rows.getD i ([], false)) ∉ (redTo rows p j).1
  | 0, _, _, hi => by omega
  | j + 1, hj, i, hi => by
    have hl := lead_mem (hr.ne _ (getD_mem rows j ([], false) (by omega)))
    rw [redTo]
    split
    · rename_i h
      rw [psum_mem]
      by_cases e : i = j
      · subst e
        exact fun h2 => h2.elim (fun h3 => h3.2 hl) (fun h3 => h3.2 h)
      · have h1 := redTo_off (p := p) hr j (by omega) i (by omega)
        have h2 := hr.off i j (by omega) (by omega) e
        exact fun h3 => h3.elim (fun h4 => h1 h4.1) (fun h4 => h2 h4.1)
    · rename_i h
      by_cases e : i = j
      · subst e; exact h
      · exact redTo_off hr j (by omega) i (by omega)
theorem span_mono {l m : List Pa} (h : ∀ p ∈ l, p ∈ m) {x : Pa} (hx : Span l x) : Span m x := by
  induction hx with
  | zero => exact .zero
  | add hp _ ih => exact .add (h _ hp) ih
theorem span_step {n : Int} {rows : List Pa} {p q : Pa} (hr : Incs n rows) (hp : Inc n p.1) (hq : Inc n q.1) (h : Span rows (psum p q)) (x : Pa) : Span (rows ++ [q]) x ↔ Span (rows ++ [p]) x := by
  have e1 : Incs n (rows ++ [p]) := fun y hy => (List.mem_append.1 hy).elim (hr y) (fun h => by rw [List.mem_singleton.1 h]; exact hp)
  have e2 : Incs n (rows ++ [q]) := fun y hy => (List.mem_append.1 hy).elim (hr y) (fun h => by rw [List.mem_singleton.1 h]; exact hq)
  refine span_iff e2 e1 (fun y hy => ?_) (fun y hy => ?_) x
  · rcases List.mem_append.1 hy with h1 | h1
    · exact span_mem e1 (List.mem_append_left _ h1)
    · rw [List.mem_singleton.1 h1, ← psum_back hp hq]
      exact .add (by simp) (span_mono (fun z hz => List.mem_append_left _ hz) h)
  · rcases List.mem_append.1 hy with h1 | h1
    · exact span_mem e2 (List.mem_append_left _ h1)
    · rw [List.mem_singleton.1 h1, ← psum_back hq hp, psum_comm hp hq]
      exact .add (by simp) (span_mono (fun z hz => List.mem_append_left _ hz) h)
theorem clrV_inc {n v : Int} {p r : Pa} (hp : Inc n p.1) (hr : Inc n r.1) : Inc n (clrV v p r).1 := by
  unfold clrV
  split
  · exact psum_inc hr hp
  · exact hr
theorem clr_inc {n v : Int} {rows : List Pa} {p : Pa} (hp : Inc n p.1) (hr : Incs n rows) : Incs n (rows.map (clrV v p)) := fun y hy => by
  obtain ⟨r, h1, rfl⟩ := List.mem_map.1 hy
  exact clrV_inc hp (hr r h1)
theorem clr_span {n v : Int} {rows : List Pa} {p : Pa} (hp : Inc n p.1) (hr : Incs n rows) (x : Pa) : Span (rows.map (clrV v p) ++ [p]) x ↔ Span (rows ++ [p]) x := by
  have e1 : Incs n (rows ++ [p]) := fun y hy => (List.mem_append.1 hy).elim (hr y) (fun h => by rw [List.mem_singleton.1 h]; exact hp)
  have e2 : Incs n (rows.map (clrV v p) ++ [p]) := fun y hy => (List.mem_append.1 hy).elim (clr_inc hp hr y) (fun h => by rw [List.mem_singleton.1 h]; exact hp)
  refine span_iff e2 e1 (fun y hy => ?_) (fun y hy => ?_) x
  · rcases List.mem_append.1 hy with h1 | h1
    · obtain ⟨r, h2, rfl⟩ := List.mem_map.1 h1
      unfold clrV
      split
      · exact span_add e1 (span_mem e1 (List.mem_append_left _ h2)) (span_mem e1 (by simp))
      · exact span_mem e1 (List.mem_append_left _ h2)
    · rw [List.mem_singleton.1 h1]; exact span_mem e1 (by simp)
  · rcases List.mem_append.1 hy with h1 | h1
    · have h3 : clrV v p y ∈ rows.map (clrV v p) ++ [p] := List.mem_append_left _ (List.mem_map.2 ⟨y, h1, rfl⟩)
      unfold clrV at h3
      split at h3
      · have := span_add e2 (span_mem e2 (show p ∈ rows.map (clrV v p) ++ [p] by simp)) (span_mem e2 h3)
        rw [psum_comm (n := n) (psum_inc (hr y h1) hp) hp, psum_assoc (hr y h1) hp hp, psum_self, psum_zero (hr y h1)] at this
        exact this
      · exact span_mem e2 h3
    · rw [List.mem_singleton.1 h1]; exact span_mem e2 (by simp)
theorem clr_lead {n : Int} {p r : Pa} (hp : Inc n p.1) (hr : Inc n r.1) (hn : p.1 ≠ []) (hrn : r.1 ≠ []) (h : lead r ∉ p.1) : lead (clrV (lead p) p r) = lead r ∧ (clrV (lead p) p r).1 ≠ [] := by
  unfold clrV
  split
  · rename_i h1
    have h2 : lead r ∈ (psum r p).1 := psum_mem.2 (.inl ⟨lead_mem hrn, h⟩)
    refine ⟨lead_is (psum_inc hr hp) h2 (fun y hy => ?_), List.ne_nil_of_mem h2⟩
    rcases psum_mem.1 hy with h3 | h3
    · exact lead_le hr h3.1
    · have := lead_le hp h3.1
      have := lead_le hr h1
      omega
  · exact ⟨rfl, hrn⟩
theorem getD_map {α β : Type} (f : α → β) (l : List α) (i : Nat) (z : α) (y : β) (hi : i < l.length) : (l.map f).getD i y = f (l.getD i z) := by simp [List.getD, hi]
theorem clr_red {n : Int} {rows : List Pa} {p : Pa} (hp : Inc n p.1) (hn : p.1 ≠ []) (hr : Red n rows) (h : ∀ r ∈ rows, lead r ∉ p.1) : Red n (clr rows p ++ [p]) := by
  have hl : (clr rows p).length = rows.length := by simp [clr]
  have ha : ∀ i, i < rows.length → (clr rows p ++ [p]).getD i ([], false) = clrV (lead p) p (rows.getD i ([], false)) := fun i hi => by
    rw [List.getD_eq_getElem?_getD, List.getElem?_append_left (by omega), ← List.getD_eq_getElem?_getD]
    exact getD_map _ _ _ _ _ hi
  have hb : (clr rows p ++ [p]).getD rows.length ([], false) = p := by
    rw [List.getD_eq_getElem?_getD, List.getElem?_append_right (by omega), hl, Nat.sub_self]
    rfl
  refine ⟨fun y hy => ?_, fun y hy => ?_, fun i j hi hj e => ?_⟩
  · exact (List.mem_append.1 hy).elim (clr_inc hp hr.inc y) (fun h => by rw [List.mem_singleton.1 h]; exact hp)
  · rcases List.mem_append.1 hy with h1 | h1
    · obtain ⟨r, h2, rfl⟩ := List.mem_map.1 h1
      exact (clr_lead hp (hr.inc r h2) hn (hr.ne r h2) (h r h2)).2
    · rw [List.mem_singleton.1 h1]; exact hn
  · rw [List.length_append, hl] at hi hj
    simp only [List.length_cons, List.length_nil] at hi hj
    by_cases ei : i = rows.length
    · subst ei
      rw [hb, ha j (by omega)]
      unfold clrV
      split
      · rename_i h1
        rw [psum_mem]
        exact fun h2 => h2.elim (fun h3 => h3.2 (lead_mem hn)) (fun h3 => h3.2 h1)
      · rename_i h1; exact h1
    · have hi' : i < rows.length := by omega
      have hm := getD_mem rows i ([], false) hi'
      rw [ha i hi', (clr_lead hp (hr.inc _ hm) hn (hr.ne _ hm) (h _ hm)).1]
      by_cases ej : j = rows.length
      · subst ej
        rw [hb]
        exact h _ hm
      · have hj' : j < rows.length := by omega
        rw [ha j hj']
        have h1 := hr.off i j hi' hj' e
        unfold clrV
        split
        · rw [psum_mem]
          exact fun h2 => h2.elim (fun h3 => h1 h3.1) (fun h3 => h _ hm h3.1)
        · exact h1

theorem mem_getD {α : Type} {l : List α} {x z : α} (h : x ∈ l) : ∃ i, i < l.length ∧ l.getD i z = x := by
  obtain ⟨i, hi, e⟩ := List.getElem_of_mem h
  exact ⟨i, hi, by rw [List.getD, List.getElem?_eq_getElem hi]; exact e⟩

/-- The program's rows. -/
theorem rowsTo_inv {n : Int} {l : List Pa} (hl : Incs n l) : ∀ i, i ≤ l.length → (∀ j, j < i → ¬ bad l j) → Red n (rowsTo l i) ∧ (∀ x, Span (rowsTo l i) x ↔ Span (l.take i) x) ∧ (rowsTo l i).length ≤ i
  | 0, _, _ => ⟨⟨fun _ h => (nomatch h), fun _ h => (nomatch h), fun _ _ h => absurd h (Nat.not_lt_zero _)⟩, fun x => by rw [List.take_zero]; exact Iff.rfl, Nat.le_refl _⟩
  | i + 1, hi, hb => by
    obtain ⟨h1, h2, h3⟩ := rowsTo_inv hl i (by omega) (fun j hj => hb j (by omega))
    have hp := hl _ (getD_mem l i ([], false) (by omega))
    obtain ⟨g1, g2⟩ := redTo_span h1.inc hp _ (Nat.le_refl _)
    have g3 := redTo_off (p := l.getD i ([], false)) h1 _ (Nat.le_refl _)
    have hti : Incs n (l.take i) := fun y hy => hl y (List.mem_of_mem_take hy)
    have hs : ∀ x, Span (rowsTo l i ++ [l.getD i ([], false)]) x ↔ Span (l.take (i + 1)) x := fun x => by
      rw [take_getD l i ([], false) (by omega)]
      have e1 : Incs n (rowsTo l i ++ [l.getD i ([], false)]) := fun y hy => (List.mem_append.1 hy).elim (h1.inc y) (fun h => by rw [List.mem_singleton.1 h]; exact hp)
      have e2 : Incs n (l.take i ++ [l.getD i ([], false)]) := fun y hy => (List.mem_append.1 hy).elim (hti y) (fun h => by rw [List.mem_singleton.1 h]; exact hp)
      refine span_iff e1 e2 (fun y hy => ?_) (fun y hy => ?_) x
      · rcases List.mem_append.1 hy with h | h
        · exact span_mono (fun z hz => List.mem_append_left _ hz) ((h2 y).1 (span_mem h1.inc h))
        · exact span_mem e2 (List.mem_append_right _ h)
      · rcases List.mem_append.1 hy with h | h
        · exact span_mono (fun z hz => List.mem_append_left _ hz) ((h2 y).2 (span_mem hti h))
        · exact span_mem e1 (List.mem_append_right _ h)
    have hq := span_step h1.inc hp g1 g2
    rw [rowsTo]
    split
    · rename_i he
      refine ⟨h1, fun x => ?_, by omega⟩
      rw [← hs x, ← hq x]
      have hz : redTo (rowsTo l i) (l.getD i ([], false)) (rowsTo l i).length = ([], false) := by
        refine Prod.ext he ?_
        have := hb i (by omega)
        unfold bad at this
        cases h : (redTo (rowsTo l i) (l.getD i ([], false)) (rowsTo l i).length).2
        · rfl
        · exact absurd (Prod.ext he h) this
      rw [hz]
      have e1 : Incs n (rowsTo l i ++ [([], false)]) := fun y hy => (List.mem_append.1 hy).elim (h1.inc y) (fun h => by rw [List.mem_singleton.1 h]; exact inc_nil n)
      refine span_iff h1.inc e1 (fun y hy => span_mem e1 (List.mem_append_left _ hy)) (fun y hy => ?_) x
      rcases List.mem_append.1 hy with h | h
      · exact span_mem h1.inc h
      · rw [List.mem_singleton.1 h]; exact .zero
    · rename_i he
      refine ⟨clr_red g1 he h1 (fun r hr => ?_), fun x => ?_, by simp only [clr, List.length_append, List.length_map, List.length_cons, List.length_nil]; omega⟩
      · obtain ⟨j, hj, rfl⟩ := mem_getD (z := ([], false)) hr
        exact g3 j hj
      · rw [← hs x, ← hq x]
        exact clr_span g1 h1.inc x
theorem bad_span {n : Int} {l : List Pa} (hl : Incs n l) {i : Nat} (hi : i < l.length) (hn : ∀ j, j < i → ¬ bad l j) (hb : bad l i) : Span l ([], true) := by
  obtain ⟨h1, h2, _⟩ := rowsTo_inv hl i (by omega) hn
  have hp := hl _ (getD_mem l i ([], false) hi)
  obtain ⟨g1, g2⟩ := redTo_span h1.inc hp _ (Nat.le_refl _)
  have : Span l (psum (l.getD i ([], false)) (psum (l.getD i ([], false)) (redTo (rowsTo l i) (l.getD i ([], false)) (rowsTo l i).length))) :=
    .add (getD_mem l i _ hi) (span_mono (fun y hy => List.mem_of_mem_take hy) ((h2 _).1 g2))
  rw [psum_back hp g1] at this
  rwa [show redTo _ _ _ = ([], true) from hb] at this
theorem red_fine {n : Int} {A : List Pa} (hA : Red n A) : ¬ Span A ([], true) := fun h => by
  have := red_none hA h (fun a _ => List.not_mem_nil)
  cases this

/-! ### The reference: variable by variable -/

def pickTo (v : Int) (L : List Pa) : Nat → Int
  | 0 => -1
  | i + 1 => if pickTo v L i < 0 ∧ v ∈ (L.getD i ([], false)).1 then (i : Int) else pickTo v L i
theorem pick_some {v : Int} {L : List Pa} : ∀ i, 0 ≤ pickTo v L i → pickTo v L i < i ∧ v ∈ (L.getD (pickTo v L i).toNat ([], false)).1
  | 0, h => by rw [pickTo] at h; omega
  | i + 1, h => by
    rw [pickTo] at h ⊢
    split
    · rename_i h1
      exact ⟨by omega, by rw [Int.toNat_natCast]; exact h1.2⟩
    · rename_i h1
      rw [if_neg h1] at h
      have := pick_some i h
      exact ⟨by omega, this.2⟩
theorem pick_none {v : Int} {L : List Pa} : ∀ i, pickTo v L i < 0 → ∀ j, j < i → v ∉ (L.getD j ([], false)).1
  | 0, _, _, hj => by omega
  | i + 1, h, j, hj => by
    rw [pickTo] at h
    split at h
    · omega
    · rename_i h1
      by_cases e : j = i
      · subst e; exact fun h2 => h1 ⟨h, h2⟩
      · exact pick_none i h j (by omega)
def rest (L : List Pa) (a : Nat) : List Pa := L.take a ++ L.drop (a + 1)
def refTo (l : List Pa) : Nat → List Pa × List Pa
  | 0 => (l, [])
  | k + 1 => if pickTo ((k : Int) + 1) (refTo l k).1 (refTo l k).1.length < 0 then refTo l k
    else ((rest (refTo l k).1 (pickTo ((k : Int) + 1) (refTo l k).1 (refTo l k).1.length).toNat).map (clrV ((k : Int) + 1) ((refTo l k).1.getD (pickTo ((k : Int) + 1) (refTo l k).1 (refTo l k).1.length).toNat ([], false))),
      (refTo l k).2.map (clrV ((k : Int) + 1) ((refTo l k).1.getD (pickTo ((k : Int) + 1) (refTo l k).1 (refTo l k).1.length).toNat ([], false))) ++ [(refTo l k).1.getD (pickTo ((k : Int) + 1) (refTo l k).1 (refTo l k).1.length).toNat ([], false)])

structure RI (n : Int) (l : List Pa) (k : Nat) (L R : List Pa) : Prop where
  inc : Incs n L
  hi : ∀ q ∈ L, ∀ x ∈ q.1, (k : Int) < x
  red : Red n R
  le : ∀ r ∈ R, lead r ≤ k
  up : R.Pairwise fun x y => lead x < lead y
  span : ∀ x, Span (R ++ L) x ↔ Span l x
  len : L.length + R.length = l.length

theorem rest_mem {L : List Pa} {a : Nat} (ha : a < L.length) (y : Pa) : y ∈ L ↔ y = L.getD a ([], false) ∨ y ∈ rest L a := by
  unfold rest
  conv => lhs; rw [← List.take_append_drop a L, List.drop_eq_getElem_cons ha]
  rw [List.mem_append, List.mem_cons, List.mem_append, show L.getD a ([], false) = L[a] by simp [List.getD, ha]]
  constructor
  · rintro (h | h | h)
    · exact .inr (.inl h)
    · exact .inl h
    · exact .inr (.inr h)
  · rintro (h | h | h)
    · exact .inr (.inl h)
    · exact .inl h
    · exact .inr (.inr h)
theorem rest_len {L : List Pa} {a : Nat} (ha : a < L.length) : (rest L a).length + 1 = L.length := by
  unfold rest
  rw [List.length_append, List.length_take, List.length_drop]
  omega
theorem un_clr {n v : Int} {G : List Pa} (hG : Incs n G) {p y : Pa} (hp : p ∈ G) (hy : Inc n y.1) (h : clrV v p y ∈ G) : Span G y := by
  unfold clrV at h
  split at h
  · have := span_add hG (span_mem hG hp) (span_mem hG h)
    rw [psum_comm (n := n) (psum_inc hy (hG p hp)) (hG p hp), psum_assoc hy (hG p hp) (hG p hp), psum_self, psum_zero hy] at this
    exact this
  · exact span_mem hG h
theorem do_clr {n v : Int} {G : List Pa} (hG : Incs n G) {p y : Pa} (hp : p ∈ G) (hy : y ∈ G) : Span G (clrV v p y) := by
  unfold clrV
  split
  · exact span_add hG (span_mem hG hy) (span_mem hG hp)
  · exact span_mem hG hy

theorem ref_step {n : Int} {l L R : List Pa} {k a : Nat} (h : RI n l k L R) (ha : a < L.length) (hv : (k : Int) + 1 ∈ (L.getD a ([], false)).1) :
    RI n l (k + 1) ((rest L a).map (clrV ((k : Int) + 1) (L.getD a ([], false)))) (R.map (clrV ((k : Int) + 1) (L.getD a ([], false))) ++ [L.getD a ([], false)]) := by
  have hpm := getD_mem L a ([], false) ha
  obtain ⟨p, hpe⟩ : ∃ p, L.getD a ([], false) = p := ⟨_, rfl⟩
  rw [hpe] at hv hpm ⊢
  have hp := h.inc p hpm
  have hne : p.1 ≠ [] := List.ne_nil_of_mem hv
  have hlp : lead p = (k : Int) + 1 := lead_is hp hv (fun y hy => by have := h.hi p hpm y hy; omega)
  have hrm : ∀ y, y ∈ rest L a → y ∈ L := fun y hy => (rest_mem ha y).2 (.inr hy)
  have hoff : ∀ r ∈ R, lead r ∉ p.1 := fun r hr hm => by
    have := h.le r hr
    have := h.hi p hpm _ hm
    omega
  have hlead : ∀ r ∈ R, lead (clrV ((k : Int) + 1) p r) = lead r := fun r hr => by
    have := (clr_lead hp (h.red.inc r hr) hne (h.red.ne r hr) (hoff r hr)).1
    rwa [hlp] at this
  have hred : Red n (R.map (clrV ((k : Int) + 1) p) ++ [p]) := by
    have := clr_red hp hne h.red hoff
    unfold clr at this
    rwa [hlp] at this
  have hinc : Incs n ((rest L a).map (clrV ((k : Int) + 1) p)) := clr_inc hp (fun y hy => h.inc y (hrm y hy))
  refine ⟨hinc, fun q hq x hx => ?_, hred, fun r hr => ?_, ?_, fun x => ?_, ?_⟩
  · obtain ⟨q, hqm, rfl⟩ := List.mem_map.1 hq
    have h1 : (k : Int) < x ∧ x ≠ (k : Int) + 1 := by
      unfold clrV at hx
      split at hx
      · rename_i hvq
        rcases psum_mem.1 hx with h2 | h2
        · exact ⟨h.hi q (hrm q hqm) x h2.1, fun e => h2.2 (e ▸ hv)⟩
        · exact ⟨h.hi p hpm x h2.1, fun e => h2.2 (e ▸ hvq)⟩
      · rename_i hvq
        exact ⟨h.hi q (hrm q hqm) x hx, fun e => hvq (e ▸ hx)⟩
    omega
  · rcases List.mem_append.1 hr with h1 | h1
    · obtain ⟨r, h2, rfl⟩ := List.mem_map.1 h1
      rw [hlead r h2]
      have := h.le r h2
      omega
    · rw [List.mem_singleton.1 h1, hlp]
      omega
  · rw [List.pairwise_append]
    refine ⟨?_, List.pairwise_singleton _ _, fun r hr q hq => ?_⟩
    · rw [List.pairwise_map]
      refine List.Pairwise.imp_of_mem (fun {x y} hx hy h1 => ?_) h.up
      rw [hlead x hx, hlead y hy]
      exact h1
    · obtain ⟨r, h2, rfl⟩ := List.mem_map.1 hr
      rw [List.mem_singleton.1 hq, hlead r h2, hlp]
      have := h.le r h2
      omega
  · rw [← h.span x]
    have hG : Incs n (R ++ L) := fun y hy => (List.mem_append.1 hy).elim (h.red.inc y) (h.inc y)
    have hG' : Incs n (R.map (clrV ((k : Int) + 1) p) ++ [p] ++ (rest L a).map (clrV ((k : Int) + 1) p)) := fun y hy => (List.mem_append.1 hy).elim (hred.inc y) (hinc y)
    have hpG : p ∈ R ++ L := List.mem_append_right _ hpm
    have hpG' : p ∈ R.map (clrV ((k : Int) + 1) p) ++ [p] ++ (rest L a).map (clrV ((k : Int) + 1) p) := List.mem_append_left _ (List.mem_append_right _ (List.mem_singleton.2 rfl))
    refine span_iff hG' hG (fun y hy => ?_) (fun y hy => ?_) x
    · rcases List.mem_append.1 hy with h1 | h1
      · rcases List.mem_append.1 h1 with h2 | h2
        · obtain ⟨r, h3, rfl⟩ := List.mem_map.1 h2
          exact do_clr hG hpG (List.mem_append_left _ h3)
        · rw [List.mem_singleton.1 h2]; exact span_mem hG hpG
      · obtain ⟨r, h3, rfl⟩ := List.mem_map.1 h1
        exact do_clr hG hpG (List.mem_append_right _ (hrm r h3))
    · rcases List.mem_append.1 hy with h1 | h1
      · exact un_clr hG' hpG' (h.red.inc y h1) (List.mem_append_left _ (List.mem_append_left _ (List.mem_map.2 ⟨y, h1, rfl⟩)))
      · rcases (rest_mem ha y).1 h1 with h2 | h2
        · rw [h2, hpe]; exact span_mem hG' hpG'
        · exact un_clr hG' hpG' (h.inc y h1) (List.mem_append_right _ (List.mem_map.2 ⟨y, h2, rfl⟩))
  · have := h.len
    have := rest_len ha
    simp only [List.length_map, List.length_append, List.length_cons, List.length_nil]
    omega
theorem ref_inv {n : Int} {l : List Pa} (hl : Incs n l) : ∀ k, RI n l k (refTo l k).1 (refTo l k).2
  | 0 => ⟨hl, fun q hq x hx => by have := (hl q hq).1 x hx; omega, ⟨fun _ h => (nomatch h), fun _ h => (nomatch h), fun _ _ h => absurd h (Nat.not_lt_zero _)⟩, fun _ h => (nomatch h), List.Pairwise.nil, fun x => Iff.rfl, by simp [refTo]⟩
  | k + 1 => by
    have h := ref_inv hl k
    rw [refTo]
    split
    · rename_i h1
      have h2 := pick_none _ h1
      refine ⟨h.inc, fun q hq x hx => ?_, h.red, fun r hr => by have := h.le r hr; omega, h.up, h.span, h.len⟩
      obtain ⟨j, hj, rfl⟩ := mem_getD (z := (([], false) : Pa)) hq
      have h3 := h.hi _ hq x hx
      have h4 : x ≠ (k : Int) + 1 := fun e => h2 j hj (e ▸ hx)
      omega
    · rename_i h1
      obtain ⟨h2, h3⟩ := pick_some _ (Int.not_lt.1 h1)
      exact ref_step h (by omega) h3

/-! ### What is told -/

def sortL (l : List Pa) : List Pa := l.mergeSort fun x y => decide (lead x ≤ lead y)
def solveR (n : Nat) (l : List Pa) : List Pa := if (refTo l n).1.any (fun q => q.2) = true then [([], true)] else (refTo l n).2
theorem ref_end {n : Nat} {l : List Pa} (hl : Incs n l) : (∀ q ∈ (refTo l n).1, q.1 = []) ∧ ((refTo l n).1.any (fun q => q.2) = true ↔ Span l ([], true)) ∧ ((refTo l n).1.any (fun q => q.2) = false → ∀ x, Span (refTo l n).2 x ↔ Span l x) := by
  have h := ref_inv hl n
  have h0 : ∀ q ∈ (refTo l n).1, q.1 = [] := fun q hq => List.eq_nil_iff_forall_not_mem.2 (fun x hx => by
    have h1 := h.hi q hq x hx
    have h2 := (h.inc q hq).1 x hx
    omega)
  have h3 : (refTo l n).1.any (fun q => q.2) = false → ∀ x, Span (refTo l n).2 x ↔ Span l x := fun hf x => by
    rw [← h.span x]
    have hG : Incs n ((refTo l n).2 ++ (refTo l n).1) := fun y hy => (List.mem_append.1 hy).elim (h.red.inc y) (h.inc y)
    refine span_iff h.red.inc hG (fun y hy => span_mem hG (List.mem_append_left _ hy)) (fun y hy => ?_) x
    rcases List.mem_append.1 hy with h1 | h1
    · exact span_mem h.red.inc h1
    · have : y = ([], false) := Prod.ext (h0 y h1) (by
        rw [List.any_eq_false] at hf
        have := hf y h1
        cases h5 : y.2
        · rfl
        · exact absurd h5 this)
      rw [this]; exact .zero
  refine ⟨h0, ⟨fun ht => ?_, fun hs => ?_⟩, h3⟩
  · obtain ⟨q, hq, h1⟩ := List.any_eq_true.1 ht
    have hG : Incs n ((refTo l n).2 ++ (refTo l n).1) := fun y hy => (List.mem_append.1 hy).elim (h.red.inc y) (h.inc y)
    have := (h.span _).1 (span_mem hG (List.mem_append_right _ hq))
    rwa [show q = ([], true) from Prod.ext (h0 q hq) h1] at this
  · refine Classical.byContradiction fun hc => ?_
    exact red_fine h.red ((h3 (Bool.eq_false_iff.2 hc) _).2 hs)
theorem solve_bad {n : Nat} {l : List Pa} (hl : Incs n l) {i : Nat} (hi : i < l.length) (hn : ∀ j, j < i → ¬ bad l j) (hb : bad l i) : solveR n l = [([], true)] := by
  rw [solveR, if_pos ((ref_end hl).2.1.2 (bad_span hl hi hn hb))]
theorem sortL_up {n : Int} {l : List Pa} (h : Red n l) : (sortL l).Pairwise fun x y => lead x < lead y := by
  have hp : (sortL l).Perm l := List.mergeSort_perm l _
  have h1 : (sortL l).Pairwise fun x y => lead x ≤ lead y :=
    (List.pairwise_mergeSort (le := fun x y => decide (lead x ≤ lead y)) (fun a b c h1 h2 => by simp at *; omega) (fun a b => by simp; omega) l).imp (fun h => by simpa using h)
  have h2 : l.Pairwise fun x y => lead x ≠ lead y := by
    rw [List.pairwise_iff_getElem]
    intro i j hi hj hij e
    have := h.off i j hi hj (by omega)
    rw [show l.getD i ([], false) = l[i] by simp [List.getD, hi], show l.getD j ([], false) = l[j] by simp [List.getD, hj], e] at this
    exact this (lead_mem (h.ne _ (List.getElem_mem hj)))
  have h3 : (sortL l).Pairwise fun x y => lead x ≠ lead y := (hp.pairwise_iff (fun h e => h e.symm)).2 h2
  exact (h1.and h3).imp (fun {a b} ⟨h4, h5⟩ => by omega)
theorem red_perm {n : Int} {A B : List Pa} (hp : B.Perm A) (h : Red n A) : Red n B := by
  have h2 : A.Pairwise fun x y => lead x ∉ y.1 ∧ lead y ∉ x.1 := by
    rw [List.pairwise_iff_getElem]
    intro i j hi hj hij
    have h1 := h.off i j hi hj (by omega)
    have h3 := h.off j i hj hi (by omega)
    rw [show A.getD i ([], false) = A[i] by simp [List.getD, hi], show A.getD j ([], false) = A[j] by simp [List.getD, hj]] at h1 h3
    exact ⟨h1, h3⟩
  have h3 := (hp.pairwise_iff (fun {x y} h => ⟨h.2, h.1⟩)).2 h2
  rw [List.pairwise_iff_getElem] at h3
  refine ⟨fun p hp' => h.inc p (hp.mem_iff.1 hp'), fun p hp' => h.ne p (hp.mem_iff.1 hp'), fun i j hi hj e => ?_⟩
  rw [show B.getD i ([], false) = B[i] by simp [List.getD, hi], show B.getD j ([], false) = B[j] by simp [List.getD, hj]]
  rcases Nat.lt_or_gt_of_ne e with h4 | h4
  · exact (h3 i j hi hj h4).1
  · exact (h3 j i hj hi h4).2
theorem solve_good {n : Nat} {l : List Pa} (hl : Incs n l) (hn : ∀ j, j < l.length → ¬ bad l j) : solveR n l = sortL (rowsTo l l.length) ∧ Red n (rowsTo l l.length) ∧ ∀ x, Span (rowsTo l l.length) x ↔ Span l x := by
  obtain ⟨h1, h2, _⟩ := rowsTo_inv hl l.length (Nat.le_refl _) hn
  rw [List.take_length] at h2
  obtain ⟨h3, h4, h5⟩ := ref_end hl
  have h6 : ¬ (refTo l n).1.any (fun q => q.2) = true := fun h => red_fine h1 ((h2 _).2 (h4.1 h))
  refine ⟨?_, h1, h2⟩
  rw [solveR, if_neg h6]
  have h := ref_inv hl n
  have hp : (sortL (rowsTo l l.length)).Perm (rowsTo l l.length) := List.mergeSort_perm _ _
  have hs := red_perm hp h1
  have hsp : ∀ x, Span (refTo l n).2 x ↔ Span (sortL (rowsTo l l.length)) x := fun x => by
    rw [h5 (Bool.eq_false_iff.2 h6) x, ← h2 x]
    exact ⟨span_mono (fun y hy => hp.mem_iff.2 hy), span_mono (fun y hy => hp.mem_iff.1 hy)⟩
  exact lead_ext h.up (sortL_up h1) (fun x => ⟨red_same h.red hs hsp, red_same hs h.red (fun y => (hsp y).symm)⟩)

/-! ### Rows changed one by one; the answer -/

def upTo {α : Type} (f : α → α) (L : List α) (i : Nat) : List α := (L.take i).map f ++ L.drop i
theorem upTo_len {α : Type} (f : α → α) (L : List α) (i : Nat) : (upTo f L i).length = L.length := by
  unfold upTo
  rw [List.length_append, List.length_map, List.length_take, List.length_drop]
  omega
theorem upTo_zero {α : Type} (f : α → α) (L : List α) : upTo f L 0 = L := by simp [upTo]
theorem upTo_end {α : Type} (f : α → α) (L : List α) : upTo f L L.length = L.map f := by simp [upTo]
theorem upTo_at {α : Type} (f : α → α) (L : List α) {i : Nat} (hi : i < L.length) (z : α) : (upTo f L i).getD i z = L.getD i z := by
  unfold upTo
  rw [List.getD_eq_getElem?_getD, List.getElem?_append_right (by rw [List.length_map, List.length_take]; omega), List.length_map, List.length_take, Nat.min_eq_left (by omega), Nat.sub_self, List.getElem?_drop, Nat.add_zero, ← List.getD_eq_getElem?_getD]
theorem upTo_set {α : Type} (f : α → α) (L : List α) {i : Nat} (hi : i < L.length) (z : α) : (upTo f L i).set i (f (L.getD i z)) = upTo f L (i + 1) := by
  unfold upTo
  rw [List.set_append_right _ _ (by rw [List.length_map, List.length_take]; omega), List.length_map, List.length_take, Nat.min_eq_left (by omega), Nat.sub_self, List.drop_eq_getElem_cons hi, List.set_cons_zero, take_getD L i z hi, List.map_append, List.append_assoc]
  rfl
theorem upTo_same {α : Type} (f : α → α) (L : List α) {i : Nat} (hi : i < L.length) (z : α) (h : f (L.getD i z) = L.getD i z) : upTo f L i = upTo f L (i + 1) := by
  rw [← upTo_set f L hi z, h]
  apply List.ext_getElem?
  intro j
  rw [List.getElem?_set]
  split
  · rename_i e
    subst e
    have := upTo_at f L hi z
    rw [upTo_len, if_pos hi]
    rw [List.getD_eq_getElem?_getD] at this
    rw [List.getElem?_eq_getElem (by rw [upTo_len]; exact hi)] at this ⊢
    rw [← this]
    rfl
  · rfl
theorem clrV_yes {v : Int} {p r : Pa} (h : v ∈ r.1) : clrV v p r = psum r p := if_pos h
theorem clrV_no {v : Int} {p r : Pa} (h : ¬ v ∈ r.1) : clrV v p r = r := if_neg h
theorem redTo_yes {rows : List Pa} {p : Pa} {j : Nat} (h : lead (rows.getD j ([], false)) ∈ (redTo rows p j).1) : redTo rows p (j + 1) = psum (redTo rows p j) (rows.getD j ([], false)) := by rw [redTo, if_pos h]
theorem redTo_no {rows : List Pa} {p : Pa} {j : Nat} (h : ¬ lead (rows.getD j ([], false)) ∈ (redTo rows p j).1) : redTo rows p (j + 1) = redTo rows p j := by rw [redTo, if_neg h]
abbrev newP (l : List Pa) (i : Nat) : Pa := redTo (rowsTo l i) (l.getD i ([], false)) (rowsTo l i).length
theorem rowsTo_none {l : List Pa} {i : Nat} (h : (newP l i).1 = []) : rowsTo l (i + 1) = rowsTo l i := by rw [rowsTo, if_pos h]
theorem rowsTo_more {l : List Pa} {i : Nat} (h : (newP l i).1 ≠ []) : rowsTo l (i + 1) = (rowsTo l i).map (clrV (lead (newP l i)) (newP l i)) ++ [newP l i] := by rw [rowsTo, if_neg h]; rfl
def asgTo (m : Nat) (Z : List Pa) : Nat → List Bool
  | 0 => List.replicate m false
  | j + 1 => (asgTo m Z j).set (lead (Z.getD j ([], false)) - 1).toNat (Z.getD j ([], false)).2
theorem asgTo_len (m : Nat) (Z : List Pa) : ∀ j, (asgTo m Z j).length = m
  | 0 => by simp [asgTo]
  | j + 1 => by rw [asgTo, List.length_set, asgTo_len m Z j]
open Classical in
noncomputable def solveOf (n : Int) (l : List Pa) : Int × List Pa × List Bool × Int × Int :=
  if (parCheck n l).1 ≠ 0 then (0, [], [], parCheck n l) else if ∃ i, i < l.length ∧ (∀ j, j < i → ¬ bad l j) ∧ bad l i then (2, [([], true)], [], 0, 0)
  else (1, sortL (rowsTo l l.length), asgTo n.toNat (sortL (rowsTo l l.length)) (sortL (rowsTo l l.length)).length, 0, 0)
theorem solveOf_err {n : Int} {l : List Pa} (h : ¬ (parCheck n l).1 = 0) : solveOf n l = (0, [], [], parCheck n l) := by rw [solveOf, if_pos h]
theorem solveOf_no {n : Int} {l : List Pa} {i : Nat} (h : (parCheck n l).1 = 0) (hi : i < l.length) (h1 : ∀ j, j < i → ¬ bad l j) (h2 : bad l i) : solveOf n l = (2, [([], true)], [], 0, 0) := by
  rw [solveOf, if_neg (fun h3 => h3 h), if_pos ⟨i, hi, h1, h2⟩]
theorem solveOf_yes {n : Int} {l : List Pa} (h : (parCheck n l).1 = 0) (h1 : ∀ j, j < l.length → ¬ bad l j) : solveOf n l = (1, sortL (rowsTo l l.length), asgTo n.toNat (sortL (rowsTo l l.length)) (sortL (rowsTo l l.length)).length, 0, 0) := by
  rw [solveOf, if_neg (fun h3 => h3 h), if_neg (fun ⟨i, hi, _, h2⟩ => h1 i hi h2)]
theorem sortL_uniq {n : Int} {l : List Pa} (h : Red n l) (ys : List Pa) (hp : ys.Perm l) (hs : ys.Pairwise fun x y => decide (cmpI (lead y) (lead x) < 0) = false) : ys = sortL l := by
  have hy := red_perm hp h
  refine lead_ext ?_ (sortL_up h) (fun x => by rw [hp.mem_iff]; exact (List.mergeSort_perm l _).mem_iff.symm)
  have h2 : ys.Pairwise fun x y => lead x ≠ lead y := by
    rw [List.pairwise_iff_getElem]
    intro i j hi hj hij e
    have := hy.off i j hi hj (by omega)
    rw [show ys.getD i ([], false) = ys[i] by simp [List.getD, hi], show ys.getD j ([], false) = ys[j] by simp [List.getD, hj], e] at this
    exact this (lead_mem (hy.ne _ (List.getElem_mem hj)))
  refine (hs.and h2).imp (fun {a b} ⟨h3, h4⟩ => ?_)
  have h5 : ¬ lead b < lead a := fun h6 => of_decide_eq_false h3 (cmpI_abs.1.2 h6)
  omega
theorem rest_form (L : List Pa) (a : Nat) : ([] ++ (L.drop 0).take (a - 0)) ++ (L.drop (a + 1)).take (L.length - (a + 1)) = rest L a := by
  unfold rest
  rw [List.nil_append, List.drop_zero, Nat.sub_zero, List.take_of_length_le (l := L.drop (a + 1)) (by rw [List.length_drop]; exact Nat.le_refl _)]
theorem ref_no {l : List Pa} {k : Nat} (h : pickTo ((k : Int) + 1) (refTo l k).1 (refTo l k).1.length < 0) : refTo l (k + 1) = refTo l k := by rw [refTo, if_pos h]
theorem ref_yes {l : List Pa} {k a : Nat} (h : pickTo ((k : Int) + 1) (refTo l k).1 (refTo l k).1.length = (a : Int)) :
    refTo l (k + 1) = ((rest (refTo l k).1 a).map (clrV ((k : Int) + 1) ((refTo l k).1.getD a ([], false))), (refTo l k).2.map (clrV ((k : Int) + 1) ((refTo l k).1.getD a ([], false))) ++ [(refTo l k).1.getD a ([], false)]) := by
  rw [refTo, if_neg (by rw [h]; omega), h, Int.toNat_natCast]
theorem first_bad {l : List Pa} : ∀ k, (∃ i, i < k ∧ bad l i) → ∃ i, i < k ∧ bad l i ∧ ∀ j, j < i → ¬ bad l j
  | 0, ⟨i, h, _⟩ => absurd h (Nat.not_lt_zero _)
  | k + 1, ⟨i, hi, hb⟩ => by
    by_cases h : ∃ i, i < k ∧ bad l i
    · obtain ⟨j, h1, h2⟩ := first_bad k h
      exact ⟨j, by omega, h2⟩
    · refine ⟨i, hi, hb, fun j hj hbj => h ⟨j, by omega, hbj⟩⟩
theorem solve_case {m : Nat} {l : List Pa} (h : (parCheck m l).1 = 0) (hl : Incs m l) :
    (solveOf m l = (2, [([], true)], [], 0, 0) ∧ solveR m l = [([], true)]) ∨ (solveOf m l = (1, solveR m l, asgTo m (solveR m l) (solveR m l).length, 0, 0) ∧ Red m (solveR m l) ∧ (solveR m l).length ≤ l.length) := by
  by_cases hb : ∃ i, i < l.length ∧ bad l i
  · obtain ⟨i, h1, h2, h3⟩ := first_bad _ hb
    exact .inl ⟨solveOf_no h h1 h3 h2, solve_bad hl h1 h3 h2⟩
  · have hn : ∀ j, j < l.length → ¬ bad l j := fun j hj hbj => hb ⟨j, hj, hbj⟩
    obtain ⟨h1, h2, _⟩ := solve_good (n := m) hl hn
    right
    rw [h1]
    refine ⟨solveOf_yes h hn, red_perm (List.mergeSort_perm _ _) h2, ?_⟩
    unfold sortL
    rw [List.length_mergeSort]
    exact (rowsTo_inv hl l.length (Nat.le_refl _) hn).2.2
theorem solve_one : (solveOf 1 [([1], true)]).1 = 1 ∧ (solveOf 1 [([1], true)]).2.2.2.1 = 0 := by
  have h : (parCheck 1 [([1], true)]) = (0, 0) := par_of (by omega) (by simp) (fun p hp => by rw [List.mem_singleton.1 hp]; exact ⟨by simp, by simp⟩)
  rw [solveOf_yes (by rw [h]) (fun j hj hb => ?_)]
  · exact ⟨rfl, rfl⟩
  · obtain rfl : j = 0 := by simp at hj; omega
    unfold bad at hb
    simp [rowsTo, redTo] at hb
theorem bools_same {a b : List Bool} {i : Nat} (h1 : a.length = b.length) (h2 : a.length ≤ i) (hp : ∀ j, j < i → a.getD j false = b.getD j false) : a = b := by
  apply List.ext_getElem h1
  intro j h3 h4
  have := hp j (by omega)
  simpa [List.getD, h3, h4] using this
end Sp
end Go.Um
