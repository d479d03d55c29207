/- Plain functions: decision diagrams. No program in sight. No condition. -/
import Derived.Test.YtofonmfoificjaaSp5
import Derived.Test.YtofonmfoificjaaMap
namespace Go.Um
namespace Sp

abbrev Cho := Int × Int × Int

/-- What a number's variable is; top: of none. -/
def lev (l : List Cho) (top i : Int) : Int := if i < 2 then top else (l.getD (i - 2).toNat (0, 0, 0)).1
def choWrong (n : Int) (l : List Cho) (i : Nat) : Int :=
  if (l.getD i (0, 0, 0)).1 < 1 ∨ n < (l.getD i (0, 0, 0)).1 ∨ ¬ (0 ≤ (l.getD i (0, 0, 0)).2.1 ∧ (l.getD i (0, 0, 0)).2.1 < (i : Int) + 2) ∨ ¬ (0 ≤ (l.getD i (0, 0, 0)).2.2 ∧ (l.getD i (0, 0, 0)).2.2 < (i : Int) + 2) then 3
  else if (l.getD i (0, 0, 0)).2.1 = (l.getD i (0, 0, 0)).2.2 ∨ lev l (n + 1) (l.getD i (0, 0, 0)).2.1 ≤ (l.getD i (0, 0, 0)).1 ∨ lev l (n + 1) (l.getD i (0, 0, 0)).2.2 ≤ (l.getD i (0, 0, 0)).1 then 5
  else if l.getD i (0, 0, 0) ∈ l.take i then 7 else 0
def diaFrom (n : Int) (l : List Cho) (i : Nat) : Int × Int :=
  if h : i < l.length then
    if choWrong n l i ≠ 0 then (choWrong n l i, i) else diaFrom n l (i + 1)
  else (0, 0)
termination_by l.length - i

/-- The numbers of a diagram lead down. -/
def Valid (l : List Cho) : Prop := ∀ j, j < l.length → 0 ≤ (l.getD j (0, 0, 0)).2.1 ∧ (l.getD j (0, 0, 0)).2.1 ≤ j + 1 ∧ 0 ≤ (l.getD j (0, 0, 0)).2.2 ∧ (l.getD j (0, 0, 0)).2.2 ≤ j + 1

/-- A traversal: which are done, and the next number. -/
def vis (l : List Cho) : Nat → Int → List Bool × Int → Bool × List Bool × Int
  | 0, _, s => (true, s)
  | f + 1, i, s =>
    if i < 2 ∨ s.1.getD i.toNat false = true then (true, s)
    else if (vis l f (l.getD (i - 2).toNat (0, 0, 0)).2.1 s).1 = false then (false, (vis l f (l.getD (i - 2).toNat (0, 0, 0)).2.1 s).2)
    else if (vis l f (l.getD (i - 2).toNat (0, 0, 0)).2.2 (vis l f (l.getD (i - 2).toNat (0, 0, 0)).2.1 s).2).1 = false then (false, (vis l f (l.getD (i - 2).toNat (0, 0, 0)).2.2 (vis l f (l.getD (i - 2).toNat (0, 0, 0)).2.1 s).2).2)
    else if i ≠ (vis l f (l.getD (i - 2).toNat (0, 0, 0)).2.2 (vis l f (l.getD (i - 2).toNat (0, 0, 0)).2.1 s).2).2.2 then (false, (vis l f (l.getD (i - 2).toNat (0, 0, 0)).2.2 (vis l f (l.getD (i - 2).toNat (0, 0, 0)).2.1 s).2).2)
    else (true, (vis l f (l.getD (i - 2).toNat (0, 0, 0)).2.2 (vis l f (l.getD (i - 2).toNat (0, 0, 0)).2.1 s).2).2.1.set i.toNat true, (vis l f (l.getD (i - 2).toNat (0, 0, 0)).2.2 (vis l f (l.getD (i - 2).toNat (0, 0, 0)).2.1 s).2).2.2 + 1)

def VisOk (l : List Cho) (s : List Bool × Int) : Prop := s.1.length = l.length + 2 ∧ 0 ≤ s.2 ∧ s.2 ≤ l.length + 2

theorem vis_ok {l : List Cho} (hV : Valid l) : ∀ (f : Nat) (i : Int) (s : List Bool × Int), 0 ≤ i → i < l.length + 2 → VisOk l s → VisOk l (vis l f i s).2
  | 0, _, _, _, _, h => h
  | f + 1, i, s, h0, h1, h => by
    unfold vis
    split
    · exact h
    · rename_i hc
      have hi : 2 ≤ i := by omega
      have hv := hV (i - 2).toNat (by omega)
      have hlo := vis_ok hV f (l.getD (i - 2).toNat (0, 0, 0)).2.1 s hv.1 (by have := hv.2.1; show (l.getD (i - 2).toNat (0, 0, 0)).2.1 < _; omega) h
      split
      · exact hlo
      · have hhi := vis_ok hV f (l.getD (i - 2).toNat (0, 0, 0)).2.2 _ hv.2.2.1 (by have := hv.2.2.2; show (l.getD (i - 2).toNat (0, 0, 0)).2.2 < _; omega) hlo
        split
        · exact hhi
        · split
          · exact hhi
          · rename_i he
            have he : i = (vis l f (l.getD (i - 2).toNat (0, 0, 0)).2.2 (vis l f (l.getD (i - 2).toNat (0, 0, 0)).2.1 s).2).2.2 := Decidable.not_not.1 he
            refine ⟨by simpa using hhi.1, ?_, ?_⟩
            · have := hhi.2.1; show 0 ≤ _ + 1; omega
            · show _ + 1 ≤ _; omega

def fin (l : List Cho) (r : Int) : Bool := (vis l (r.toNat + 1) r (List.replicate (l.length + 2) false, 2)).1 && decide ((vis l (r.toNat + 1) r (List.replicate (l.length + 2) false, 2)).2.2 = l.length + 2)

def diaCheck (n : Int) (l : List Cho) (r : Int) : Int × Int :=
  if n < 0 ∨ 16 < n then (3, 0) else if 4000 < l.length then (2, 0)
  else if (diaFrom n l 0).1 ≠ 0 then diaFrom n l 0
  else if r < 0 ∨ (l.length : Int) + 2 ≤ r then (3, -1)
  else if fin l r = true then (0, 0) else (5, -1)

theorem getL_set (l : List Cho) (c : Cho) : (getL (l.map fun x => (x, true)) c).getD false = decide (c ∈ l) := by
  induction l with
  | nil => rfl
  | cons a l ih =>
    simp only [List.map_cons, getL]
    by_cases e : c = a
    · simp [e]
    · rw [if_neg e, ih]; simp [e]

theorem putL_new {κ α : Type} [DecidableEq κ] (k : κ) (v : α) : ∀ (m : List (κ × α)), getL m k = none → putL m k v = m ++ [(k, v)]
  | [], _ => rfl
  | (k0, v0) :: m, h => by
    unfold getL at h
    unfold putL
    by_cases e : k = k0
    · simp [e] at h
    · rw [if_neg e] at h ⊢
      rw [putL_new k v m h]; rfl

theorem getL_none (l : List Cho) (c : Cho) (h : c ∉ l) : getL (l.map fun x => (x, true)) c = none := by
  induction l with
  | nil => rfl
  | cons a l ih =>
    simp only [List.mem_cons, not_or] at h
    simp only [List.map_cons, getL]
    rw [if_neg h.1, ih h.2]

theorem put_set {l : List Cho} {i : Nat} (hi : i < l.length) (h : l.getD i (0, 0, 0) ∉ l.take i) : putL ((l.take i).map fun x => (x, true)) (l.getD i (0, 0, 0)) true = (l.take (i + 1)).map fun x => (x, true) := by
  rw [putL_new _ _ _ (getL_none _ _ h), take_getD l i (0, 0, 0) hi]; simp

theorem cho_ok {n : Int} {l : List Cho} {i : Nat} (h : choWrong n l i = 0) : (1 ≤ (l.getD i (0, 0, 0)).1 ∧ (l.getD i (0, 0, 0)).1 ≤ n) ∧ (0 ≤ (l.getD i (0, 0, 0)).2.1 ∧ (l.getD i (0, 0, 0)).2.1 < (i : Int) + 2) ∧ (0 ≤ (l.getD i (0, 0, 0)).2.2 ∧ (l.getD i (0, 0, 0)).2.2 < (i : Int) + 2) ∧
    (l.getD i (0, 0, 0)).2.1 ≠ (l.getD i (0, 0, 0)).2.2 ∧ (l.getD i (0, 0, 0)).1 < lev l (n + 1) (l.getD i (0, 0, 0)).2.1 ∧ (l.getD i (0, 0, 0)).1 < lev l (n + 1) (l.getD i (0, 0, 0)).2.2 ∧ l.getD i (0, 0, 0) ∉ l.take i := by
  unfold choWrong at h
  split at h
  · cases h
  · rename_i h1
    split at h
    · cases h
    · rename_i h2
      split at h
      · cases h
      · rename_i h3
        refine ⟨by omega, by omega, by omega, fun e => h2 (.inl e), ?_, ?_, h3⟩
        · have : ¬ lev l (n + 1) (l.getD i (0, 0, 0)).2.1 ≤ (l.getD i (0, 0, 0)).1 := fun e => h2 (.inr (.inl e))
          omega
        · have : ¬ lev l (n + 1) (l.getD i (0, 0, 0)).2.2 ≤ (l.getD i (0, 0, 0)).1 := fun e => h2 (.inr (.inr e))
          omega

theorem valid_of {n : Int} {l : List Cho} (h : ∀ j, j < l.length → choWrong n l j = 0) : Valid l := fun j hj => by
  have := cho_ok (h j hj)
  omega

theorem diaFrom_ok {n : Int} {l : List Cho} {i : Nat} (hi : i ≤ l.length) (h : (diaFrom n l i).1 = 0) : ∀ j, i ≤ j → j < l.length → choWrong n l j = 0 := by
  intro j hj hl
  unfold diaFrom at h
  split at h
  · rename_i h1
    split at h
    · rename_i h2; exact absurd h h2
    · rename_i h2
      by_cases e : j = i
      · subst e; exact Decidable.not_not.1 h2
      · exact diaFrom_ok (by omega) h j (by omega) hl
  · omega
termination_by l.length - i

theorem dia_ok {n : Int} {l : List Cho} {r : Int} (h : (diaCheck n l r).1 = 0) : (0 ≤ n ∧ n ≤ 16) ∧ l.length ≤ 4000 ∧ (∀ j, j < l.length → choWrong n l j = 0) ∧ (0 ≤ r ∧ r < l.length + 2) ∧ fin l r = true := by
  unfold diaCheck at h
  split at h
  · cases h
  · split at h
    · cases h
    · split at h
      · rename_i h1; exact absurd h h1
      · rename_i h1
        split at h
        · cases h
        · split at h
          · rename_i h2
            exact ⟨by omega, by omega, fun j hj => diaFrom_ok (Nat.zero_le _) (Decidable.not_not.1 h1) j (Nat.zero_le _) hj, by omega, h2⟩
          · cases h

theorem dia_zero {n : Int} {l : List Cho} {r : Int} (h : (diaCheck n l r).1 = 0) : diaCheck n l r = (0, 0) := by
  have hk := dia_ok h
  unfold diaCheck at h ⊢
  rw [if_neg (by omega), if_neg (by omega)] at h ⊢
  split
  · rename_i h1; rw [if_pos h1] at h; exact absurd h h1
  · rw [if_neg (by omega), if_pos hk.2.2.2.2]

theorem dia_at {n : Int} {l : List Cho} {r : Int} {i : Nat} {c : Int} (hn : 0 ≤ n ∧ n ≤ 16) (hl : l.length ≤ 4000) (hi : i < l.length) (hp : diaFrom n l 0 = diaFrom n l i) (hw : choWrong n l i = c) (hc : c ≠ 0) : diaCheck n l r = (c, (i : Int)) := by
  have e : diaFrom n l 0 = (c, (i : Int)) := by rw [hp, diaFrom, dif_pos hi, if_pos (by rw [hw]; exact hc), hw]
  rw [diaCheck, if_neg (by omega), if_neg (by omega), e, if_pos hc]
theorem dia_next {n : Int} {l : List Cho} {i : Nat} (hi : i < l.length) (hp : diaFrom n l 0 = diaFrom n l i) (hw : choWrong n l i = 0) : diaFrom n l 0 = diaFrom n l (i + 1) := by
  rw [hp, diaFrom, dif_pos hi, if_neg (by rw [hw]; decide)]
theorem dia_end {n : Int} {l : List Cho} {r : Int} {i : Nat} (hn : 0 ≤ n ∧ n ≤ 16) (hl : l.length ≤ 4000) (hi : l.length ≤ i) (hp : diaFrom n l 0 = diaFrom n l i) : diaCheck n l r = if r < 0 ∨ (l.length : Int) + 2 ≤ r then (3, -1) else if fin l r = true then (0, 0) else (5, -1) := by
  have e : diaFrom n l 0 = (0, 0) := by rw [hp, diaFrom, dif_neg (by omega)]
  rw [diaCheck, if_neg (by omega), if_neg (by omega), e, if_neg (by decide)]
theorem all_next {n : Int} {l : List Cho} {i : Nat} (h : ∀ j, j < i → choWrong n l j = 0) (hw : choWrong n l i = 0) : ∀ j, j < i + 1 → choWrong n l j = 0 := fun j hj => by
  by_cases e : j = i
  · rw [e]; exact hw
  · exact h j (by omega)

theorem lev_top {n : Int} {l : List Cho} {c : Int} (i : Int) (hn : n ≤ 16) (hc : c ≤ n) : lev l (n + 1) i ≤ c ↔ lev l 17 i ≤ c := by
  unfold lev
  split
  · omega
  · exact Iff.rfl
end Sp
end Go.Um
namespace Go.Um
namespace Sp
/-- The reference's traversal: numbers as one leaves them. -/
def rvis (l : List Cho) : Nat → Int → List Int → List Int
  | 0, _, s => s
  | f + 1, k, s => if k < 2 ∨ k ∈ s then s else rvis l f (l.getD (k - 2).toNat (0, 0, 0)).2.2 (rvis l f (l.getD (k - 2).toNat (0, 0, 0)).2.1 s) ++ [k]

/-- What a list of numbers keeps. -/
def Inn (l : List Cho) (s : List Int) : Prop := s.Nodup ∧ ∀ x ∈ s, 2 ≤ x ∧ x < l.length + 2

theorem inn_len {l : List Cho} {s : List Int} (h : Inn l s) : s.length ≤ l.length := by
  have := len_sub (b := (List.range l.length).map fun (j : Nat) => (j : Int) + 2) h.1 (fun x hx => by
    have := h.2 x hx
    rw [List.mem_map]
    exact ⟨(x - 2).toNat, List.mem_range.2 (by omega), by omega⟩)
  simpa using this

theorem rvis_mem {l : List Cho} (hV : Valid l) : ∀ (f : Nat) (k : Int) (s : List Int), k < l.length + 2 → ∀ x ∈ rvis l f k s, x ∈ s ∨ x ≤ k
  | 0, _, _, _, x, hx => .inl hx
  | f + 1, k, s, hk, x, hx => by
    unfold rvis at hx
    split at hx
    · exact .inl hx
    · rename_i hc
      have hv := hV (k - 2).toNat (by omega)
      rw [List.mem_append] at hx
      rcases hx with hx | hx
      · rcases rvis_mem hV f _ _ (by omega) x hx with h | h
        · rcases rvis_mem hV f _ _ (by omega) x h with h | h
          · exact .inl h
          · right; omega
        · right; omega
      · right; simp at hx; omega

theorem rvis_inn {l : List Cho} (hV : Valid l) : ∀ (f : Nat) (k : Int) (s : List Int), k < l.length + 2 → Inn l s → Inn l (rvis l f k s)
  | 0, _, _, _, h => h
  | f + 1, k, s, hk, h => by
    unfold rvis
    split
    · exact h
    · rename_i hc
      have hv := hV (k - 2).toNat (by omega)
      have h1 := rvis_inn hV f (l.getD (k - 2).toNat (0, 0, 0)).2.1 s (by omega) h
      have h2 := rvis_inn hV f (l.getD (k - 2).toNat (0, 0, 0)).2.2 _ (by omega) h1
      have hn : k ∉ rvis l f (l.getD (k - 2).toNat (0, 0, 0)).2.2 (rvis l f (l.getD (k - 2).toNat (0, 0, 0)).2.1 s) := by
        intro hm
        rcases rvis_mem hV f _ _ (by omega) k hm with h | h
        · rcases rvis_mem hV f _ _ (by omega) k h with h | h
          · exact hc (.inr h)
          · omega
        · omega
      refine ⟨?_, ?_⟩
      · rw [List.nodup_append]
        exact ⟨h2.1, by simp, fun a ha b hb => by simp at hb; rw [hb]; exact fun e => hn (e ▸ ha)⟩
      · intro x hx
        rw [List.mem_append] at hx
        rcases hx with hx | hx
        · exact h2.2 x hx
        · simp at hx; omega

/-- The numbers from 2 on. -/
def rng (nx : Int) : List Int := (List.range (nx - 2).toNat).map fun (j : Nat) => (j : Int) + 2

theorem rng_len (nx : Int) : (rng nx).length = (nx - 2).toNat := by simp [rng]
theorem rng_get (nx : Int) (j : Nat) (h : j < (nx - 2).toNat) : (rng nx).getD j 0 = (j : Int) + 2 := by
  have hl : j < (rng nx).length := by rw [rng_len]; exact h
  rw [List.getD_eq_getElem?_getD, List.getElem?_eq_getElem hl]
  simp [rng]
theorem rng_succ (nx : Int) (h : 2 ≤ nx) : rng (nx + 1) = rng nx ++ [nx] := by
  unfold rng
  rw [show (nx + 1 - 2).toNat = (nx - 2).toNat + 1 by omega, List.range_succ]
  simp
  omega
theorem rng_mem (nx x : Int) : x ∈ rng nx ↔ 2 ≤ x ∧ x < nx := by
  simp only [rng, List.mem_map, List.mem_range]
  constructor
  · rintro ⟨j, h1, h2⟩; omega
  · intro h; exact ⟨(x - 2).toNat, by omega, by omega⟩

/-- A list that goes wrong somewhere. -/
def Off (l : List Cho) (s : List Int) : Prop := ∃ j, j < l.length ∧ j < s.length ∧ s.getD j 0 ≠ (j : Int) + 2

theorem Off.more {l : List Cho} {s : List Int} (h : Off l s) (t : List Int) : Off l (s ++ t) := by
  obtain ⟨j, h1, h2, h3⟩ := h
  refine ⟨j, h1, by simp; omega, ?_⟩
  rw [List.getD_eq_getElem?_getD, List.getElem?_append_left h2, ← List.getD_eq_getElem?_getD]
  exact h3

theorem rvis_off {l : List Cho} : ∀ (f : Nat) (k : Int) (s : List Int), Off l s → Off l (rvis l f k s)
  | 0, _, _, h => h
  | f + 1, k, s, h => by
    unfold rvis
    split
    · exact h
    · exact (rvis_off f _ _ (rvis_off f _ _ h)).more _

/-- 'done' holds just the numbers ahead of the next one. -/
def Upto (l : List Cho) (s : List Bool × Int) : Prop := VisOk l s ∧ 2 ≤ s.2 ∧ ∀ i : Nat, i < l.length + 2 → 2 ≤ i → (s.1.getD i false = true ↔ (i : Int) < s.2)

theorem set_get (ds : List Bool) (i j : Nat) (hi : i < ds.length) : (ds.set i true).getD j false = if j = i then true else ds.getD j false := by
  rw [List.getD_eq_getElem?_getD, List.getElem?_set]
  by_cases e : i = j
  · subst e; simp [hi]
  · rw [if_neg e, if_neg (fun h => e h.symm), List.getD_eq_getElem?_getD]

theorem both_vis {l : List Cho} (hV : Valid l) : ∀ (f : Nat) (i : Int) (s : List Bool × Int), 0 ≤ i → i < f → i < l.length + 2 → Upto l s →
    ((vis l f i s).1 = true → Upto l (vis l f i s).2 ∧ rvis l f i (rng s.2) = rng (vis l f i s).2.2) ∧ ((vis l f i s).1 = false → Off l (rvis l f i (rng s.2)))
  | 0, i, s, h0, h1, h2, hs => by omega
  | f + 1, i, s, h0, h1, h2, hs => by
    by_cases hc : i < 2 ∨ s.1.getD i.toNat false = true
    · have e : vis l (f + 1) i s = (true, s) := by rw [vis, if_pos hc]
      have hm : i < 2 ∨ i ∈ rng s.2 := by
        rcases hc with h | h
        · exact .inl h
        · by_cases h2' : i < 2
          · exact .inl h2'
          · right; rw [rng_mem]; have := (hs.2.2 i.toNat (by omega) (by omega)).1 h; omega
      have e2 : rvis l (f + 1) i (rng s.2) = rng s.2 := by rw [rvis, if_pos hm]
      rw [e, e2]
      exact ⟨fun _ => ⟨hs, rfl⟩, fun h => by cases h⟩
    · have hm : ¬ (i < 2 ∨ i ∈ rng s.2) := by
        rintro (h | h)
        · exact hc (.inl h)
        · rw [rng_mem] at h
          exact hc (.inr ((hs.2.2 i.toNat (by omega) (by omega)).2 (by omega)))
      have hi : 2 ≤ i := by omega
      have hge : s.2 ≤ i := by
        apply Decidable.byContradiction
        intro h
        exact hm (.inr ((rng_mem _ _).2 (by omega)))
      have hv := hV (i - 2).toNat (by omega)
      have ih1 := both_vis hV f (l.getD (i - 2).toNat (0, 0, 0)).2.1 s (by omega) (by omega) (by omega) hs
      rw [rvis, if_neg hm]
      by_cases c1 : (vis l f (l.getD (i - 2).toNat (0, 0, 0)).2.1 s).1 = false
      · have e : vis l (f + 1) i s = (false, (vis l f (l.getD (i - 2).toNat (0, 0, 0)).2.1 s).2) := by rw [vis, if_neg hc, if_pos c1]
        rw [e]
        exact ⟨fun h => (by cases h), fun _ => (rvis_off f _ _ (ih1.2 c1)).more _⟩
      · obtain ⟨u1, r1⟩ := ih1.1 (by simpa using c1)
        have ih2 := both_vis hV f (l.getD (i - 2).toNat (0, 0, 0)).2.2 (vis l f (l.getD (i - 2).toNat (0, 0, 0)).2.1 s).2 (by omega) (by omega) (by omega) u1
        rw [r1]
        by_cases c2 : (vis l f (l.getD (i - 2).toNat (0, 0, 0)).2.2 (vis l f (l.getD (i - 2).toNat (0, 0, 0)).2.1 s).2).1 = false
        · have e : vis l (f + 1) i s = (false, (vis l f (l.getD (i - 2).toNat (0, 0, 0)).2.2 (vis l f (l.getD (i - 2).toNat (0, 0, 0)).2.1 s).2).2) := by rw [vis, if_neg hc, if_neg c1, if_pos c2]
          rw [e]
          exact ⟨fun h => (by cases h), fun _ => (ih2.2 c2).more _⟩
        · obtain ⟨u2, r2⟩ := ih2.1 (by simpa using c2)
          rw [r2]
          generalize hw : (vis l f (l.getD (i - 2).toNat (0, 0, 0)).2.2 (vis l f (l.getD (i - 2).toNat (0, 0, 0)).2.1 s).2).2 = w at u2 ih2 r2 ⊢
          have hmem : i ∉ rng w.2 := by
            intro hm'
            rw [← r2, ← r1] at hm'
            rcases rvis_mem hV f _ _ (by omega) i hm' with h | h
            · rcases rvis_mem hV f _ _ (by omega) i h with h | h
              · exact hm (.inr h)
              · omega
            · omega
          rw [rng_mem] at hmem
          by_cases c3 : i ≠ w.2
          · have e : vis l (f + 1) i s = (false, w) := by rw [vis, if_neg hc, if_neg c1, if_neg c2, hw, if_pos c3]
            rw [e]
            refine ⟨fun h => (by cases h), fun _ => ⟨(w.2 - 2).toNat, by omega, by simp [rng_len], ?_⟩⟩
            rw [List.getD_eq_getElem?_getD, List.getElem?_append_right (by rw [rng_len]; exact Nat.le_refl _), rng_len]
            have := u2.2.1
            simp
            omega
          · have c3 : i = w.2 := Decidable.not_not.1 c3
            have e : vis l (f + 1) i s = (true, w.1.set i.toNat true, w.2 + 1) := by rw [vis, if_neg hc, if_neg c1, if_neg c2, hw, if_neg (fun h => h c3)]
            rw [e]
            refine ⟨fun _ => ⟨⟨⟨by simpa using u2.1.1, ?_, ?_⟩, ?_, ?_⟩, ?_⟩, fun h => (by cases h)⟩
            · show 0 ≤ w.2 + 1; omega
            · show w.2 + 1 ≤ _; omega
            · show 2 ≤ w.2 + 1; omega
            · intro j hj hj2
              show (w.1.set i.toNat true).getD j false = true ↔ (j : Int) < w.2 + 1
              have hlen := u2.1.1
              rw [set_get _ _ _ (by omega)]
              by_cases ej : j = i.toNat
              · rw [if_pos ej]; simp; omega
              · rw [if_neg ej, u2.2.2 j hj hj2]; omega
            · show rng w.2 ++ [i] = rng (w.2 + 1)
              rw [rng_succ _ u2.2.1, c3]

/-- The reference's last test. -/
def okFrom (l : List Cho) (s : List Int) : Prop := ∀ j, j < l.length → j < s.length ∧ s.getD j 0 = (j : Int) + 2

theorem fin_iff {l : List Cho} {r : Int} (hV : Valid l) (hr : 0 ≤ r ∧ r < l.length + 2) : fin l r = true ↔ okFrom l (rvis l (r.toNat + 1) r []) := by
  have hup : Upto l (List.replicate (l.length + 2) false, 2) := by
    refine ⟨⟨by simp, by show (0 : Int) ≤ 2; decide, by show (2 : Int) ≤ (l.length : Int) + 2; omega⟩, Int.le_refl _, fun i hi h2 => ?_⟩
    have : (List.replicate (l.length + 2) false).getD i false = false := by
      rw [List.getD_eq_getElem?_getD, List.getElem?_replicate]; split <;> rfl
    show (List.replicate (l.length + 2) false).getD i false = true ↔ (i : Int) < 2
    rw [this]
    simp
    omega
  have hb := both_vis hV (r.toNat + 1) r _ hr.1 (by omega) hr.2 hup
  have e0 : rng (2 : Int) = [] := rfl
  simp only [e0] at hb
  unfold fin
  generalize vis l (r.toNat + 1) r (List.replicate (l.length + 2) false, 2) = q at hb
  cases h1 : q.1 with
  | false =>
    obtain ⟨j, h2, h3, h4⟩ := hb.2 h1
    simp only [Bool.false_and, Bool.false_eq_true, false_iff]
    intro h
    exact h4 (h j h2).2
  | true =>
    obtain ⟨u, e⟩ := hb.1 h1
    rw [e]
    simp only [Bool.true_and, decide_eq_true_eq]
    constructor
    · intro h j hj
      rw [h]
      refine ⟨by rw [rng_len]; omega, rng_get _ _ (by omega)⟩
    · intro h
      have hle := u.1.2.2
      by_cases hl : l.length = 0
      · have := u.2.1; omega
      · have := (h (l.length - 1) (by omega)).1
        rw [rng_len] at this
        omega
end Sp
end Go.Um
