/- Plain functions: diagrams out of tables. No program in sight. No condition. -/
import Derived.Test.YtofonmfoificjaaSp8
namespace Go.Um
namespace Sp

def knownOf (L : List Cho) : List (Cho × Int) := L.zipIdx.map fun p => (p.1, (p.2 : Int) + 2)
abbrev Seen := List (ByteArray × Int)
/-- The node of a part of a table, as the program makes it: with what is known. -/
def nodeF : Nat → List Int → Int → List Cho × Seen → Int × List Cho × Seen
  | 0, t, _, σ => (t.getD 0 0, σ)
  | m + 1, t, v, σ =>
    if (getL σ.2 (strOfNums t)).isSome = true then ((getL σ.2 (strOfNums t)).getD 0, σ)
    else if (nodeF m (t.take (2 ^ m)) (v + 1) σ).1 = (nodeF m ((t.drop (2 ^ m)).take (t.length - 2 ^ m)) (v + 1) (nodeF m (t.take (2 ^ m)) (v + 1) σ).2).1 then
      ((nodeF m (t.take (2 ^ m)) (v + 1) σ).1, (nodeF m ((t.drop (2 ^ m)).take (t.length - 2 ^ m)) (v + 1) (nodeF m (t.take (2 ^ m)) (v + 1) σ).2).2.1, putL (nodeF m ((t.drop (2 ^ m)).take (t.length - 2 ^ m)) (v + 1) (nodeF m (t.take (2 ^ m)) (v + 1) σ).2).2.2 (strOfNums t) (nodeF m (t.take (2 ^ m)) (v + 1) σ).1)
    else if (getL (knownOf (nodeF m ((t.drop (2 ^ m)).take (t.length - 2 ^ m)) (v + 1) (nodeF m (t.take (2 ^ m)) (v + 1) σ).2).2.1) (v, (nodeF m (t.take (2 ^ m)) (v + 1) σ).1, (nodeF m ((t.drop (2 ^ m)).take (t.length - 2 ^ m)) (v + 1) (nodeF m (t.take (2 ^ m)) (v + 1) σ).2).1)).isSome = true then
      ((getL (knownOf (nodeF m ((t.drop (2 ^ m)).take (t.length - 2 ^ m)) (v + 1) (nodeF m (t.take (2 ^ m)) (v + 1) σ).2).2.1) (v, (nodeF m (t.take (2 ^ m)) (v + 1) σ).1, (nodeF m ((t.drop (2 ^ m)).take (t.length - 2 ^ m)) (v + 1) (nodeF m (t.take (2 ^ m)) (v + 1) σ).2).1)).getD 0, (nodeF m ((t.drop (2 ^ m)).take (t.length - 2 ^ m)) (v + 1) (nodeF m (t.take (2 ^ m)) (v + 1) σ).2).2.1,
        putL (nodeF m ((t.drop (2 ^ m)).take (t.length - 2 ^ m)) (v + 1) (nodeF m (t.take (2 ^ m)) (v + 1) σ).2).2.2 (strOfNums t) ((getL (knownOf (nodeF m ((t.drop (2 ^ m)).take (t.length - 2 ^ m)) (v + 1) (nodeF m (t.take (2 ^ m)) (v + 1) σ).2).2.1) (v, (nodeF m (t.take (2 ^ m)) (v + 1) σ).1, (nodeF m ((t.drop (2 ^ m)).take (t.length - 2 ^ m)) (v + 1) (nodeF m (t.take (2 ^ m)) (v + 1) σ).2).1)).getD 0))
    else
      ((((nodeF m ((t.drop (2 ^ m)).take (t.length - 2 ^ m)) (v + 1) (nodeF m (t.take (2 ^ m)) (v + 1) σ).2).2.1 ++ [(v, (nodeF m (t.take (2 ^ m)) (v + 1) σ).1, (nodeF m ((t.drop (2 ^ m)).take (t.length - 2 ^ m)) (v + 1) (nodeF m (t.take (2 ^ m)) (v + 1) σ).2).1)]).length : Int) + 1,
        (nodeF m ((t.drop (2 ^ m)).take (t.length - 2 ^ m)) (v + 1) (nodeF m (t.take (2 ^ m)) (v + 1) σ).2).2.1 ++ [(v, (nodeF m (t.take (2 ^ m)) (v + 1) σ).1, (nodeF m ((t.drop (2 ^ m)).take (t.length - 2 ^ m)) (v + 1) (nodeF m (t.take (2 ^ m)) (v + 1) σ).2).1)],
        putL (nodeF m ((t.drop (2 ^ m)).take (t.length - 2 ^ m)) (v + 1) (nodeF m (t.take (2 ^ m)) (v + 1) σ).2).2.2 (strOfNums t) ((((nodeF m ((t.drop (2 ^ m)).take (t.length - 2 ^ m)) (v + 1) (nodeF m (t.take (2 ^ m)) (v + 1) σ).2).2.1 ++ [(v, (nodeF m (t.take (2 ^ m)) (v + 1) σ).1, (nodeF m ((t.drop (2 ^ m)).take (t.length - 2 ^ m)) (v + 1) (nodeF m (t.take (2 ^ m)) (v + 1) σ).2).1)]).length : Int) + 1))

/-- One step, by what the halves come to. -/
theorem nodeF_step {m : Nat} {t : List Int} {v : Int} {σ : List Cho × Seen} {A B : Int × List Cho × Seen} (hA : nodeF m (t.take (2 ^ m)) (v + 1) σ = A) (hB : nodeF m ((t.drop (2 ^ m)).take (t.length - 2 ^ m)) (v + 1) A.2 = B) :
    nodeF (m + 1) t v σ = if (getL σ.2 (strOfNums t)).isSome = true then ((getL σ.2 (strOfNums t)).getD 0, σ)
    else if A.1 = B.1 then (A.1, B.2.1, putL B.2.2 (strOfNums t) A.1)
    else if (getL (knownOf B.2.1) (v, A.1, B.1)).isSome = true then ((getL (knownOf B.2.1) (v, A.1, B.1)).getD 0, B.2.1, putL B.2.2 (strOfNums t) ((getL (knownOf B.2.1) (v, A.1, B.1)).getD 0))
    else (((B.2.1 ++ [(v, A.1, B.1)]).length : Int) + 1, B.2.1 ++ [(v, A.1, B.1)], putL B.2.2 (strOfNums t) (((B.2.1 ++ [(v, A.1, B.1)]).length : Int) + 1)) := by
  subst hB hA
  rw [nodeF]

theorem nodeF_len : ∀ (m : Nat) (t : List Int) (v : Int) (σ : List Cho × Seen), (nodeF m t v σ).2.1.length + 1 ≤ σ.1.length + 2 ^ m
  | 0, t, v, σ => by simp [nodeF]
  | m + 1, t, v, σ => by
    have h1 := nodeF_len m (t.take (2 ^ m)) (v + 1) σ
    have h2 := nodeF_len m ((t.drop (2 ^ m)).take (t.length - 2 ^ m)) (v + 1) (nodeF m (t.take (2 ^ m)) (v + 1) σ).2
    have hp : 2 ^ (m + 1) = 2 ^ m + 2 ^ m := by rw [Nat.pow_succ]; omega
    have hp1 : 1 ≤ 2 ^ m := Nat.one_le_two_pow
    rw [nodeF_step rfl rfl]
    split
    · simp only; omega
    · split
      · simp only; omega
      · split
        · simp only; omega
        · simp only [List.length_append, List.length_singleton]; omega

theorem nodeF_rng : ∀ (m : Nat) (t : List Int) (v : Int) (σ : List Cho × Seen), t.length = 2 ^ m → (∀ x ∈ t, 0 ≤ x ∧ x ≤ 1) → True := fun _ _ _ _ _ _ => trivial

/-! ### What is known -/
theorem getL_app {κ α : Type} [DecidableEq κ] : ∀ (m m' : List (κ × α)) (k : κ), getL (m ++ m') k = (getL m k).or (getL m' k)
  | [], m', k => by simp [getL]
  | (k0, v0) :: m, m', k => by
    simp only [List.cons_append, getL]
    split
    · rfl
    · exact getL_app m m' k
theorem getL_put {κ α : Type} [DecidableEq κ] : ∀ (m : List (κ × α)) (k k' : κ) (v : α), getL (putL m k v) k' = if k' = k then Option.some v else getL m k'
  | [], k, k', v => by simp [putL, getL]
  | (k0, v0) :: m, k, k', v => by
    unfold putL
    by_cases h : k = k0
    · subst h
      simp only [if_true, getL]
      split <;> rfl
    · simp only [h, if_false, getL, getL_put m k k' v]
      by_cases h' : k' = k0
      · subst h'
        have : ¬ k' = k := fun e => h e.symm
        simp [this]
      · simp [h']
theorem known_app (L X : List Cho) : knownOf (L ++ X) = knownOf L ++ (X.zipIdx L.length).map fun p => (p.1, (p.2 : Int) + 2) := by
  simp [knownOf, List.zipIdx_append]
theorem known_none : ∀ (X : List Cho) (k : Nat) (c : Cho), getL ((X.zipIdx k).map fun p => (p.1, (p.2 : Int) + 2)) c = none ↔ c ∉ X
  | [], k, c => by simp [getL]
  | x :: X, k, c => by
    simp only [List.zipIdx_cons, List.map_cons, getL]
    by_cases h : c = x
    · simp [h]
    · simp [h, known_none X (k + 1) c]
theorem known_not (L : List Cho) (c : Cho) : getL (knownOf L) c = none ↔ c ∉ L := known_none L 0 c
theorem known_more {L : List Cho} {c : Cho} {i : Int} (h : getL (knownOf L) c = Option.some i) (X : List Cho) : getL (knownOf (L ++ X)) c = Option.some i := by
  rw [known_app, getL_app, h]; rfl
theorem known_new {L : List Cho} {c : Cho} (h : c ∉ L) : getL (knownOf (L ++ [c])) c = Option.some ((L.length : Int) + 2) := by
  rw [known_app, getL_app, (known_not L c).2 h]; simp [getL]
theorem known_put {L : List Cho} {c : Cho} (h : c ∉ L) : putL (knownOf L) c (((L ++ [c]).length : Int) + 1) = knownOf (L ++ [c]) := by
  rw [putL_new _ _ _ ((known_not L c).2 h), known_app]
  simp
  omega
theorem known_at {L : List Cho} {c : Cho} {i : Nat} (hi : i < L.length) (hc : L.getD i (0, 0, 0) = c) (hn : ∀ y ∈ L.take i, y ≠ c) : getL (knownOf L) c = Option.some ((i : Int) + 2) := by
  have e : L = L.take i ++ (c :: L.drop (i + 1)) := by
    rw [← hc, List.getD_eq_getElem?_getD, List.getElem?_eq_getElem hi]
    simp
  have hl : (L.take i).length = i := by rw [List.length_take]; omega
  rw [e, known_app, getL_app, (known_not _ _).2 (fun h => hn c h rfl), hl]
  simp [getL]
theorem known_is {L : List Cho} {c : Cho} {i : Int} (h : getL (knownOf L) c = Option.some i) : ∃ j, j < L.length ∧ L.getD j (0, 0, 0) = c ∧ i = (j : Int) + 2 ∧ ∀ y ∈ L.take j, y ≠ c := by
  have hc : c ∈ L := Classical.byContradiction fun hn => by rw [(known_not L c).2 hn] at h; cases h
  obtain ⟨A, B, e, hA⟩ : ∃ A B, L = A ++ c :: B ∧ c ∉ A := by
    clear h
    induction L with
    | nil => cases hc
    | cons x L ih =>
      by_cases hx : x = c
      · exact ⟨[], L, by simp [hx], by simp⟩
      · have : c ∈ L := by
          rcases List.mem_cons.1 hc with h | h
          · exact absurd h.symm hx
          · exact h
        obtain ⟨A, B, e, hA⟩ := ih this
        exact ⟨x :: A, B, by simp [e], by simp [hA]; exact fun e => hx e.symm⟩
  have hg : L.getD A.length (0, 0, 0) = c := by simp [e]
  have ht : L.take A.length = A := by simp [e]
  have hlt : A.length < L.length := by simp [e]
  have h2 := known_at hlt hg (by rw [ht]; exact fun y hy hyc => hA (hyc ▸ hy))
  rw [h] at h2
  exact ⟨A.length, hlt, hg, by simpa using h2, by rw [ht]; exact fun y hy hyc => hA (hyc ▸ hy)⟩

/-! ### The one diagram of a table -/
def growJ (l : List Cho) (v a b : Int) : List Cho × Int :=
  if a = b then (l, a) else if (getL (knownOf l) (v, a, b)).isSome = true then (l, (getL (knownOf l) (v, a, b)).getD 0) else (l ++ [(v, a, b)], (l.length : Int) + 2)
def grow : Nat → List Cho → List Bool → Int → List Cho × Int
  | 0, l, t, _ => (l, b01 (t.getD 0 false))
  | m + 1, l, t, v => growJ (grow m (grow m l (t.take (2 ^ m)) (v + 1)).1 ((t.drop (2 ^ m)).take (t.length - 2 ^ m)) (v + 1)).1 v (grow m l (t.take (2 ^ m)) (v + 1)).2 (grow m (grow m l (t.take (2 ^ m)) (v + 1)).1 ((t.drop (2 ^ m)).take (t.length - 2 ^ m)) (v + 1)).2

theorem grow_step {m : Nat} {l : List Cho} {t : List Bool} {v : Int} {A B : List Cho × Int} (hA : grow m l (t.take (2 ^ m)) (v + 1) = A) (hB : grow m A.1 ((t.drop (2 ^ m)).take (t.length - 2 ^ m)) (v + 1) = B) : grow (m + 1) l t v = growJ B.1 v A.2 B.2 := by
  subst hB hA
  rw [grow]

theorem growJ_cases (l : List Cho) (v a b : Int) : (a = b ∧ growJ l v a b = (l, a)) ∨ (a ≠ b ∧ ∃ i, getL (knownOf l) (v, a, b) = Option.some i ∧ growJ l v a b = (l, i)) ∨ (a ≠ b ∧ (v, a, b) ∉ l ∧ growJ l v a b = (l ++ [(v, a, b)], (l.length : Int) + 2)) := by
  unfold growJ
  by_cases h : a = b
  · exact .inl ⟨h, by rw [if_pos h]⟩
  · cases hk : getL (knownOf l) (v, a, b) with
    | none => exact .inr (.inr ⟨h, (known_not _ _).1 hk, by simp [h]⟩)
    | some i => exact .inr (.inl ⟨h, i, rfl, by simp [h]⟩)

theorem grow_ext : ∀ (m : Nat) (l : List Cho) (t : List Bool) (v : Int), ∃ X, (grow m l t v).1 = l ++ X
  | 0, l, t, v => ⟨[], by simp [grow]⟩
  | m + 1, l, t, v => by
    obtain ⟨X, hX⟩ := grow_ext m l (t.take (2 ^ m)) (v + 1)
    obtain ⟨Y, hY⟩ := grow_ext m (grow m l (t.take (2 ^ m)) (v + 1)).1 ((t.drop (2 ^ m)).take (t.length - 2 ^ m)) (v + 1)
    rw [grow_step rfl rfl]
    rcases growJ_cases (grow m (grow m l (t.take (2 ^ m)) (v + 1)).1 ((t.drop (2 ^ m)).take (t.length - 2 ^ m)) (v + 1)).1 v (grow m l (t.take (2 ^ m)) (v + 1)).2 (grow m (grow m l (t.take (2 ^ m)) (v + 1)).1 ((t.drop (2 ^ m)).take (t.length - 2 ^ m)) (v + 1)).2 with ⟨_, h⟩ | ⟨_, i, _, h⟩ | ⟨_, _, h⟩
    · rw [h, hY, hX]; exact ⟨X ++ Y, by simp⟩
    · rw [h, hY, hX]; exact ⟨X ++ Y, by simp⟩
    · rw [h, hY, hX]; exact ⟨X ++ (Y ++ [_]), by simp; rfl⟩

theorem grow_more : ∀ (m : Nat) (l : List Cho) (t : List Bool) (v i : Int), grow m l t v = (l, i) → ∀ X, grow m (l ++ X) t v = (l ++ X, i)
  | 0, l, t, v, i, h, X => by simp only [grow, Prod.mk.injEq, true_and] at h ⊢; exact h
  | m + 1, l, t, v, i, h, X => by
    obtain ⟨⟨l1, a⟩, hA⟩ : ∃ A, grow m l (t.take (2 ^ m)) (v + 1) = A := ⟨_, rfl⟩
    obtain ⟨⟨l2, b⟩, hB⟩ : ∃ B, grow m l1 ((t.drop (2 ^ m)).take (t.length - 2 ^ m)) (v + 1) = B := ⟨_, rfl⟩
    obtain ⟨X1, h1⟩ := grow_ext m l (t.take (2 ^ m)) (v + 1)
    obtain ⟨X2, h2⟩ := grow_ext m l1 ((t.drop (2 ^ m)).take (t.length - 2 ^ m)) (v + 1)
    rw [hA] at h1
    rw [hB] at h2
    simp only at h1 h2
    rw [grow_step hA hB] at h
    simp only at h
    have hl : l2 = l ∧ l1 = l := by
      have hlen : l2.length ≤ l.length := by
        rcases growJ_cases l2 v a b with ⟨_, e⟩ | ⟨_, _, _, e⟩ | ⟨_, _, e⟩ <;> rw [e] at h <;> simp only [Prod.mk.injEq] at h <;> rw [← h.1] <;> simp
      have e2 : X2 = [] := by rw [h2, h1] at hlen; simp at hlen; exact List.eq_nil_of_length_eq_zero (by omega)
      have e1 : X1 = [] := by rw [h2, h1] at hlen; simp at hlen; exact List.eq_nil_of_length_eq_zero (by omega)
      rw [h2, h1, e1, e2]; simp
    obtain ⟨rfl, rfl⟩ := hl
    have ha := grow_more m _ _ _ _ hA X
    have hb := grow_more m _ _ _ _ hB X
    rw [grow_step ha hb]
    simp only
    rcases growJ_cases l1 v a b with ⟨e, e'⟩ | ⟨e, j, hj, e'⟩ | ⟨_, _, e'⟩
    · rw [e'] at h; simp only [Prod.mk.injEq] at h; rw [growJ, if_pos e, h.2]
    · rw [e'] at h; simp only [Prod.mk.injEq] at h
      have := known_more hj X
      rw [growJ, if_neg e, this]; simp [h.2]
    · rw [e'] at h; simp only [Prod.mk.injEq] at h
      have := congrArg List.length h.1
      simp at this

theorem grow_idem : ∀ (m : Nat) (l : List Cho) (t : List Bool) (v : Int), grow m (grow m l t v).1 t v = grow m l t v
  | 0, l, t, v => by simp [grow]
  | m + 1, l, t, v => by
    obtain ⟨⟨l1, a⟩, hA⟩ : ∃ A, grow m l (t.take (2 ^ m)) (v + 1) = A := ⟨_, rfl⟩
    obtain ⟨⟨l2, b⟩, hB⟩ : ∃ B, grow m l1 ((t.drop (2 ^ m)).take (t.length - 2 ^ m)) (v + 1) = B := ⟨_, rfl⟩
    obtain ⟨X2, h2⟩ := grow_ext m l1 ((t.drop (2 ^ m)).take (t.length - 2 ^ m)) (v + 1)
    rw [hB] at h2
    simp only at h2
    have i1 := grow_idem m l (t.take (2 ^ m)) (v + 1)
    rw [hA] at i1
    have i2 := grow_idem m l1 ((t.drop (2 ^ m)).take (t.length - 2 ^ m)) (v + 1)
    rw [hB] at i2
    simp only at i1 i2
    rw [grow_step hA hB]
    simp only
    have i1' := grow_more m _ _ _ _ i1 X2
    rw [← h2] at i1'
    rcases growJ_cases l2 v a b with ⟨e, e'⟩ | ⟨e, j, hj, e'⟩ | ⟨e, hn, e'⟩
    · rw [e', grow_step i1' i2]; simp only; exact e'
    · rw [e', grow_step i1' i2]; simp only; exact e'
    · rw [e', grow_step (grow_more m _ _ _ _ i1' [(v, a, b)]) (grow_more m _ _ _ _ i2 [(v, a, b)])]
      simp only
      have := known_new hn
      rw [growJ, if_neg e, this]; simp

/-! ### What was seen -/
theorem str_inj {t t' : List Bool} (h : strOfNums (t.map b01) = strOfNums (t'.map b01)) : t = t' := by
  have h1 : ((t.map b01).map fun n => UInt8.ofNat n.toNat) = ((t'.map b01).map fun n => UInt8.ofNat n.toNat) := by
    have := congrArg (fun b : ByteArray => b.data.toList) h
    simpa [strOfNums] using this
  rw [List.map_map, List.map_map] at h1
  exact (List.map_inj_right (fun x y hxy => by cases x <;> cases y <;> first | rfl | (exfalso; revert hxy; decide))).1 h1

def SeenOk (n : Nat) (L : List Cho) (sn : Seen) : Prop := ∀ (m : Nat) (t : List Bool) (i : Int), m + 1 ≤ n → t.length = 2 ^ (m + 1) → getL sn (strOfNums (t.map b01)) = Option.some i → grow (m + 1) L t ((n : Int) - m) = (L, i)

theorem SeenOk.more {n : Nat} {L : List Cho} {sn : Seen} (h : SeenOk n L sn) (X : List Cho) : SeenOk n (L ++ X) sn := fun m t i hm ht hg => grow_more _ _ _ _ _ (h m t i hm ht hg) X

theorem SeenOk.put {n : Nat} {L : List Cho} {sn : Seen} (h : SeenOk n L sn) {m : Nat} {t : List Bool} {i : Int} (ht : t.length = 2 ^ (m + 1)) (hg : grow (m + 1) L t ((n : Int) - m) = (L, i)) : SeenOk n L (putL sn (strOfNums (t.map b01)) i) := by
  intro m' t' i' hm' ht' hg'
  rw [getL_put] at hg'
  split at hg'
  · rename_i e
    have e := str_inj e
    subst e
    have hpw : 2 ^ (m' + 1) = 2 ^ (m + 1) := by rw [← ht', ← ht]
    obtain rfl : m' = m := by
      rcases Nat.lt_trichotomy m' m with h1 | h1 | h1
      · have := Nat.pow_lt_pow_right (a := 2) (by decide) (show m' + 1 < m + 1 by omega); omega
      · exact h1
      · have := Nat.pow_lt_pow_right (a := 2) (by decide) (show m + 1 < m' + 1 by omega); omega
    simp only [Option.some.injEq] at hg'
    rw [← hg']
    exact hg
  · exact h m' t' i' hm' ht' hg'

theorem node_grow (n : Nat) : ∀ (m : Nat) (t : List Bool) (L : List Cho) (sn : Seen), t.length = 2 ^ m → m ≤ n → SeenOk n L sn →
    (nodeF m (t.map b01) ((n : Int) - m + 1) (L, sn)).1 = (grow m L t ((n : Int) - m + 1)).2 ∧ (nodeF m (t.map b01) ((n : Int) - m + 1) (L, sn)).2.1 = (grow m L t ((n : Int) - m + 1)).1 ∧
    SeenOk n (nodeF m (t.map b01) ((n : Int) - m + 1) (L, sn)).2.1 (nodeF m (t.map b01) ((n : Int) - m + 1) (L, sn)).2.2
  | 0, t, L, sn, ht, hm, hs => by
    refine ⟨?_, rfl, hs⟩
    match t, ht with
    | [b], _ => rfl
  | m + 1, t, L, sn, ht, hm, hs => by
    have hp : 2 ^ (m + 1) = 2 ^ m + 2 ^ m := by rw [Nat.pow_succ]; omega
    have hv : (n : Int) - ((m + 1 : Nat) : Int) + 1 + 1 = (n : Int) - m + 1 := by omega
    have hv' : (n : Int) - ((m + 1 : Nat) : Int) + 1 = (n : Int) - m := by omega
    obtain ⟨g1, g2, g3⟩ := node_grow n m (t.take (2 ^ m)) L sn (by rw [List.length_take]; omega) (by omega) hs
    obtain ⟨A, hA⟩ : ∃ A, nodeF m ((t.take (2 ^ m)).map b01) ((n : Int) - m + 1) (L, sn) = A := ⟨_, rfl⟩
    rw [hA] at g1 g2 g3
    obtain ⟨k1, k2, k3⟩ := node_grow n m ((t.drop (2 ^ m)).take (t.length - 2 ^ m)) A.2.1 A.2.2 (by rw [List.length_take, List.length_drop]; omega) (by omega) g3
    obtain ⟨B, hB⟩ : ∃ B, nodeF m (((t.drop (2 ^ m)).take (t.length - 2 ^ m)).map b01) ((n : Int) - m + 1) A.2 = B := ⟨_, rfl⟩
    have hB' : nodeF m (((t.drop (2 ^ m)).take (t.length - 2 ^ m)).map b01) ((n : Int) - m + 1) (A.2.1, A.2.2) = B := hB
    rw [hB'] at k1 k2 k3
    have eA : nodeF m ((t.map b01).take (2 ^ m)) ((n : Int) - ((m + 1 : Nat) : Int) + 1 + 1) (L, sn) = A := by rw [hv, ← List.map_take]; exact hA
    have eB : nodeF m (((t.map b01).drop (2 ^ m)).take ((t.map b01).length - 2 ^ m)) ((n : Int) - ((m + 1 : Nat) : Int) + 1 + 1) A.2 = B := by rw [hv, ← List.map_drop, List.length_map, ← List.map_take]; exact hB
    have hG : grow (m + 1) L t ((n : Int) - ((m + 1 : Nat) : Int) + 1) = growJ B.2.1 ((n : Int) - ((m + 1 : Nat) : Int) + 1) A.1 B.1 := by
      rw [grow_step (A := (A.2.1, A.1)) (B := (B.2.1, B.1)) (by rw [hv]; exact Prod.ext g2.symm g1.symm) (by rw [hv]; exact Prod.ext k2.symm k1.symm)]
    rw [nodeF_step eA eB]
    have hid := grow_idem (m + 1) L t ((n : Int) - ((m + 1 : Nat) : Int) + 1)
    by_cases h0 : (getL sn (strOfNums (t.map b01))).isSome = true
    · obtain ⟨i, hi⟩ := Option.isSome_iff_exists.1 h0
      have := hs m t i (by omega) ht hi
      rw [if_pos h0, hv', this]
      simp only [hi, Option.getD_some, true_and]
      exact hs
    · rw [if_neg h0]
      rcases growJ_cases B.2.1 ((n : Int) - ((m + 1 : Nat) : Int) + 1) A.1 B.1 with ⟨e, e'⟩ | ⟨e, j, hj, e'⟩ | ⟨e, hn, e'⟩
      · rw [if_pos e, hG, e']
        rw [hG, e'] at hid
        rw [hv'] at hid
        exact ⟨rfl, rfl, k3.put ht hid⟩
      · rw [if_neg e, if_pos (by rw [hj]; rfl), hG, e', hj]
        rw [hG, e'] at hid
        rw [hv'] at hid
        exact ⟨rfl, rfl, k3.put ht hid⟩
      · rw [if_neg e, if_neg (by rw [(known_not _ _).2 hn]; decide), hG, e']
        rw [hG, e'] at hid
        rw [hv'] at hid ⊢
        have e2 : (((B.2.1 ++ [((n : Int) - m, A.1, B.1)]).length : Int) + 1) = (B.2.1.length : Int) + 2 := by simp; omega
        rw [e2]
        exact ⟨rfl, rfl, (k3.more [((n : Int) - m, A.1, B.1)]).put (i := (B.2.1.length : Int) + 2) ht hid⟩

/-- What the program builds of a table. -/
theorem node_built {n : Nat} {t : List Bool} (ht : t.length = 2 ^ n) : (nodeF n (t.map b01) 1 ([], [])).1 = (grow n [] t 1).2 ∧ (nodeF n (t.map b01) 1 ([], [])).2.1 = (grow n [] t 1).1 := by
  have h := node_grow n n t [] [] ht (Nat.le_refl _) (fun m t i _ _ hg => by simp [getL] at hg)
  have e : (n : Int) - n + 1 = 1 := by omega
  rw [e] at h
  exact ⟨h.1, h.2.1⟩
end Sp
end Go.Um
