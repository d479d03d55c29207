/- Plain functions: decision diagrams. No program in sight. No condition. -/
import Derived.Test.YtpjenbbalengoaaSp5
import Derived.Test.YtpjenbbalengoaaBC
import Derived.Test.YtpjenbbalengoaaPA
namespace Go.Um
namespace Sp

abbrev Cho := Int × Int × Int

/-- What a number's variable is; top: of none. -/
def lev (l : List Cho) (top i : Int) : Int := if i < 2 then top else (l.getD (i - 2).toNat (0, 0, 0)).1
def choWrong (n : Int) (l : List Cho) (i : Nat) : Int :=
  if (l.getD i (0, 0, 0)).1 < 1 ∨ n < (l.getD i (0, 0, 0)).1 ∨ ¬ (0 ≤ (l.getD i (0, 0, 0)).2.1 ∧ (l.getD i (0, 0, 0)).2.1 < (i : Int) + 2) ∨ ¬ (0 ≤ (l.getD i (0, 0, 0)).2.2 ∧ (l.getD i (0, 0, 0)).2.2 < (i : Int) + 2) then 3
  else if (l.getD i (0, 0, 0)).2.1 = (l.getD i (0, 0, 0)).2.2 ∨ lev l (n + 1) (l.getD i (0, 0, 0)).2.1 ≤ (l.getD i (0, 0, 0)).1 ∨ lev l (n + 1) (l.getD i (0, 0, 0)).2.2 ≤ (l.getD i (0, 0, 0)).1 then 5
  else if l.getD i (0, 0, 0) ∈ l.take i then 7 else 0
def diaFrom (n : Int) (l : List Cho) (i : Nat) : Int × Int :=
  if h : i < l.length then
    if choWrong n l i ≠ 0 then (choWrong n l i, i) else diaFrom n l (i + 1)
  else (0, 0)
termination_by l.length - i

/-- The numbers of a diagram lead down. -/
def Valid (l : List Cho) : Prop := ∀ j, j < l.length → 0 ≤ (l.getD j (0, 0, 0)).2.1 ∧ (l.getD j (0, 0, 0)).2.1 ≤ j + 1 ∧ 0 ≤ (l.getD j (0, 0, 0)).2.2 ∧ (l.getD j (0, 0, 0)).2.2 ≤ j + 1

/-- A traversal: which are done, and the next number. -/
def vis (l : List Cho) : Nat → Int → List Bool × Int → Bool × List Bool × Int
  | 0, _, s => (true, s)
  | f + 1, i, s =>
    if i < 2 ∨ s.1.getD i.toNat false = true then (true, s)
    else if (vis l f (l.getD (i - 2).toNat (0, 0, 0)).2.1 s).1 = false then (false, (vis l f (l.getD (i - 2).toNat (0, 0, 0)).2.1 s).2)
    else if (vis l f (l.getD (i - 2).toNat (0, 0, 0)).2.2 (vis l f (l.getD (i - 2).toNat (0, 0, 0)).2.1 s).2).1 = false then (false, (vis l f (l.getD (i - 2).toNat (0, 0, 0)).2.2 (vis l f (l.getD (i - 2).toNat (0, 0, 0)).2.1 s).2).2)
    else if i ≠ (vis l f (l.getD (i - 2).toNat (0, 0, 0)).2.2 (vis l f (l.getD (i - 2).toNat (0, 0, 0)).2.1 s).2).2.2 then (false, (vis l f (l.getD (i - 2).toNat (0, 0, 0)).2.2 (vis l f (l.getD (i - 2).toNat (0, 0, 0)).2.1 s).2).2)
    else (true, (vis l f (l.getD (i - 2).toNat (0, 0, 0)).2.2 (vis l f (l.getD (i - 2).toNat (0, 0, 0)).2.1 s).2).2.1.set i.toNat true, (vis l f (l.getD (i - 2).toNat (0, 0, 0)).2.2 (vis l f (l.getD (i - 2).toNat (0, 0, 0)).2.1 s).2).2.2 + 1)

def VisOk (l : List Cho) (s : List Bool × Int) : Prop := s.1.length = l.length + 2 ∧ 0 ≤ s.2 ∧ s.2 ≤ l.length + 2

def fin (l : List Cho) (r : Int) : Bool := (vis l (r.toNat + 1) r (List.replicate (l.length + 2) false, 2)).1 && decide ((vis l (r.toNat + 1) r (List.replicate (l.length + 2) false, 2)).2.2 = l.length + 2)

def diaCheck (n : Int) (l : List Cho) (r : Int) : Int × Int :=
  if n < 0 ∨ 16 < n then (3, 0) else if 4000 < l.length then (2, 0)
  else if (diaFrom n l 0).1 ≠ 0 then diaFrom n l 0
  else if r < 0 ∨ (l.length : Int) + 2 ≤ r then (3, -1)
  else if fin l r = true then (0, 0) else (5, -1)

theorem putL_new {κ α : Type} [DecidableEq κ] (k : κ) (v : α) : ∀ (m : List (κ × α)), getL m k = none → putL m k v = m ++ [(k, v)]
  | [], _ => rfl
  | (k0, v0) :: m, h => by
    unfold getL at h
    unfold putL
    by_cases e : k = k0
    · simp [e] at h
    · rw [if_neg e] at h ⊢
      rw [putL_new k v m h]; rfl

theorem cho_ok {n : Int} {l : List Cho} {i : Nat} (h : choWrong n l i = 0) : (1 ≤ (l.getD i (0, 0, 0)).1 ∧ (l.getD i (0, 0, 0)).1 ≤ n) ∧ (0 ≤ (l.getD i (0, 0, 0)).2.1 ∧ (l.getD i (0, 0, 0)).2.1 < (i : Int) + 2) ∧ (0 ≤ (l.getD i (0, 0, 0)).2.2 ∧ (l.getD i (0, 0, 0)).2.2 < (i : Int) + 2) ∧
    (l.getD i (0, 0, 0)).2.1 ≠ (l.getD i (0, 0, 0)).2.2 ∧ (l.getD i (0, 0, 0)).1 < lev l (n + 1) (l.getD i (0, 0, 0)).2.1 ∧ (l.getD i (0, 0, 0)).1 < lev l (n + 1) (l.getD i (0, 0, 0)).2.2 ∧ l.getD i (0, 0, 0) ∉ l.take i := by
  unfold choWrong at h
  split at h
  · cases h
  · rename_i h1
    split at h
    · cases h
    · rename_i h2
      split at h
      · cases h
      · rename_i h3
        refine ⟨by omega, by omega, by omega, fun e => h2 (.inl e), ?_, ?_, h3⟩
        · have : ¬ lev l (n + 1) (l.getD i (0, 0, 0)).2.1 ≤ (l.getD i (0, 0, 0)).1 := fun e => h2 (.inr (.inl e))
          omega
        · have : ¬ lev l (n + 1) (l.getD i (0, 0, 0)).2.2 ≤ (l.getD i (0, 0, 0)).1 := fun e => h2 (.inr (.inr e))
          omega

theorem valid_of {n : Int} {l : List Cho} (h : ∀ j, j < l.length → choWrong n l j = 0) : Valid l := fun j hj => by
  have := cho_ok (h j hj)
  omega

theorem diaFrom_ok {n : Int} {l : List Cho} {i : Nat} (hi : i ≤ l.length) (h : (diaFrom n l i).1 = 0) : ∀ j, i ≤ j → j < l.length → choWrong n l j = 0 := by
  intro j hj hl
  unfold diaFrom at h
  split at h
  · rename_i h1
    split at h
    · rename_i h2; exact absurd h h2
    · rename_i h2
      by_cases e : j = i
      · subst e; exact Decidable.not_not.1 h2
      · exact diaFrom_ok (by omega) h j (by omega) hl
  · omega
termination_by l.length - i

theorem dia_ok {n : Int} {l : List Cho} {r : Int} (h : (diaCheck n l r).1 = 0) : (0 ≤ n ∧ n ≤ 16) ∧ l.length ≤ 4000 ∧ (∀ j, j < l.length → choWrong n l j = 0) ∧ (0 ≤ r ∧ r < l.length + 2) ∧ fin l r = true := by
  unfold diaCheck at h
  split at h
  · cases h
  · split at h
    · cases h
    · split at h
      · rename_i h1; exact absurd h h1
      · rename_i h1
        split at h
        · cases h
        · split at h
          · rename_i h2
            exact ⟨by omega, by omega, fun j hj => diaFrom_ok (Nat.zero_le _) (Decidable.not_not.1 h1) j (Nat.zero_le _) hj, by omega, h2⟩
          · cases h

theorem dia_at {n : Int} {l : List Cho} {r : Int} {i : Nat} {c : Int} (hn : 0 ≤ n ∧ n ≤ 16) (hl : l.length ≤ 4000) (hi : i < l.length) (hp : diaFrom n l 0 = diaFrom n l i) (hw : choWrong n l i = c) (hc : c ≠ 0) : diaCheck n l r = (c, (i : Int)) := by
  have e : diaFrom n l 0 = (c, (i : Int)) := by rw [hp, diaFrom, dif_pos hi, if_pos (by rw [hw]; exact hc), hw]
  rw [diaCheck, if_neg (by omega), if_neg (by omega), e, if_pos hc]
theorem dia_next {n : Int} {l : List Cho} {i : Nat} (hi : i < l.length) (hp : diaFrom n l 0 = diaFrom n l i) (hw : choWrong n l i = 0) : diaFrom n l 0 = diaFrom n l (i + 1) := by
  rw [hp, diaFrom, dif_pos hi, if_neg (by rw [hw]; decide)]
theorem dia_end {n : Int} {l : List Cho} {r : Int} {i : Nat} (hn : 0 ≤ n ∧ n ≤ 16) (hl : l.length ≤ 4000) (hi : l.length ≤ i) (hp : diaFrom n l 0 = diaFrom n l i) : diaCheck n l r = if r < 0 ∨ (l.length : Int) + 2 ≤ r then (3, -1) else if fin l r = true then (0, 0) else (5, -1) := by
  have e : diaFrom n l 0 = (0, 0) := by rw [hp, diaFrom, dif_neg (by omega)]
  rw [diaCheck, if_neg (by omega), if_neg (by omega), e, if_neg (by decide)]
theorem all_next {n : Int} {l : List Cho} {i : Nat} (h : ∀ j, j < i → choWrong n l j = 0) (hw : choWrong n l i = 0) : ∀ j, j < i + 1 → choWrong n l j = 0 := fun j hj => by
  by_cases e : j = i
  · rw [e]; exact hw
  · exact h j (by omega)

end Sp
end Go.Um
namespace Go.Um
namespace Sp
/-- The reference's traversal: numbers as one leaves them. -/
def rvis (l : List Cho) : Nat → Int → List Int → List Int
  | 0, _, s => s
  | f + 1, k, s => if k < 2 ∨ k ∈ s then s else rvis l f (l.getD (k - 2).toNat (0, 0, 0)).2.2 (rvis l f (l.getD (k - 2).toNat (0, 0, 0)).2.1 s) ++ [k]

/-- What a list of numbers keeps. -/
def Inn (l : List Cho) (s : List Int) : Prop := s.Nodup ∧ ∀ x ∈ s, 2 ≤ x ∧ x < l.length + 2

theorem inn_len {l : List Cho} {s : List Int} (h : Inn l s) : s.length ≤ l.length := by
  have := len_sub (b := (List.range l.length).map fun (j : Nat) => (j : Int) + 2) h.1 (fun x hx => by
    have := h.2 x hx
    rw [List.mem_map]
    exact ⟨(x - 2).toNat, List.mem_range.2 (by omega), by omega⟩)
  simpa using this

theorem rvis_mem {l : List Cho} (hV : Valid l) : ∀ (f : Nat) (k : Int) (s : List Int), k < l.length + 2 → ∀ x ∈ rvis l f k s, x ∈ s ∨ x ≤ k
  | 0, _, _, _, x, hx => .inl hx
  | f + 1, k, s, hk, x, hx => by
    unfold rvis at hx
    split at hx
    · exact .inl hx
    · rename_i hc
      have hv := hV (k - 2).toNat (by omega)
      rw [List.mem_append] at hx
      rcases hx with hx | hx
      · rcases rvis_mem hV f _ _ (by omega) x hx with h | h
        · rcases rvis_mem hV f _ _ (by omega) x h with h | h
          · exact .inl h
          · right; omega
        · right; omega
      · right; simp at hx; omega

theorem rvis_inn {l : List Cho} (hV : Valid l) : ∀ (f : Nat) (k : Int) (s : List Int), k < l.length + 2 → Inn l s → Inn l (rvis l f k s)
  | 0, _, _, _, h => h
  | f + 1, k, s, hk, h => by
    unfold rvis
    split
    · exact h
    · rename_i hc
      have hv := hV (k - 2).toNat (by omega)
      have h1 := rvis_inn hV f (l.getD (k - 2).toNat (0, 0, 0)).2.1 s (by omega) h
      have h2 := rvis_inn hV f (l.getD (k - 2).toNat (0, 0, 0)).2.2 _ (by omega) h1
      have hn : k ∉ rvis l f (l.getD (k - 2).toNat (0, 0, 0)).2.2 (rvis l f (l.getD (k - 2).toNat (0, 0, 0)).2.1 s) := by
        intro hm
        rcases rvis_mem hV f _ _ (by omega) k hm with h | h
        · rcases rvis_mem hV f _ _ (by omega) k h with h | h
          · exact hc (.inr h)
          · omega
        · omega
      refine ⟨?_, ?_⟩
      · rw [List.nodup_append]
        exact ⟨h2.1, by simp, fun a ha b hb => by simp at hb; rw [hb]; exact fun e => hn (e ▸ ha)⟩
      · intro x hx
        rw [List.mem_append] at hx
        rcases hx with hx | hx
        · exact h2.2 x hx
        · simp at hx; omega

/-- The numbers from 2 on. -/
def rng (nx : Int) : List Int := (List.range (nx - 2).toNat).map fun (j : Nat) => (j : Int) + 2

theorem rng_len (nx : Int) : (rng nx).length = (nx - 2).toNat := by simp [rng]
theorem rng_get (nx : Int) (j : Nat) (h : j < (nx - 2).toNat) : (rng nx).getD j 0 = (j : Int) + 2 := by
  have hl : j < (rng nx).length := by rw [rng_len]; exact h
  rw [List.getD_eq_getElem?_getD, List.getElem?_eq_getElem hl]
  simp [rng]
theorem rng_succ (nx : Int) (h : 2 ≤ nx) : rng (nx + 1) = rng nx ++ [nx] := by
  unfold rng
  rw [show (nx + 1 - 2).toNat = (nx - 2).toNat + 1 by omega, List.range_succ]
  simp
  omega
theorem rng_mem (nx x : Int) : x ∈ rng nx ↔ 2 ≤ x ∧ x < nx := by
  simp only [rng, List.mem_map, List.mem_range]
  constructor
  · rintro ⟨j, h1, h2⟩; omega
  · intro h; exact ⟨(x - 2).toNat, by omega, by omega⟩

/-- A list that goes wrong somewhere. -/
def Off (l : List Cho) (s : List Int) : Prop := ∃ j, j < l.length ∧ j < s.length ∧ s.getD j 0 ≠ (j : Int) + 2

theorem Off.more {l : List Cho} {s : List Int} (h : Off l s) (t : List Int) : Off l (s ++ t) := by
  obtain ⟨j, h1, h2, h3⟩ := h
  refine ⟨j, h1, by simp; omega, ?_⟩
  rw [List.getD_eq_getElem?_getD, List.getElem?_append_left h2, ← List.getD_eq_getElem?_getD]
  exact h3

theorem rvis_off {l : List Cho} : ∀ (f : Nat) (k : Int) (s : List Int), Off l s → Off l (rvis l f k s)
  | 0, _, _, h => h
  | f + 1, k, s, h => by
    unfold rvis
    split
    · exact h
    · exact (rvis_off f _ _ (rvis_off f _ _ h)).more _

/-- 'done' holds just the numbers ahead of the next one. -/
def Upto (l : List Cho) (s : List Bool × Int) : Prop := VisOk l s ∧ 2 ≤ s.2 ∧ ∀ i : Nat, i < l.length + 2 → 2 ≤ i → (s.1.getD i false = true ↔ (i : Int) < s.2)

theorem set_get (ds : List Bool) (i j : Nat) (hi : i < ds.length) : (ds.set i true).getD j false = if j = i then true else ds.getD j false := by
  rw [List.getD_eq_getElem?_getD, List.getElem?_set]
  by_cases e : i = j
  · subst e; simp [hi]
  · rw [if_neg e, if_neg (fun h => e h.symm), List.getD_eq_getElem?_getD]

theorem both_vis {l : List Cho} (hV : Valid l) : ∀ (f : Nat) (i : Int) (s : List Bool × Int), 0 ≤ i → i < f → i < l.length + 2 → Upto l s →
    ((vis l f i s).1 = true → Upto l (vis l f i s).2 ∧ rvis l f i (rng s.2) = rng (vis l f i s).2.2) ∧ ((vis l f i s).1 = false → Off l (rvis l f i (rng s.2)))
  | 0, i, s, h0, h1, h2, hs => by omega
  | f + 1, i, s, h0, h1, h2, hs => by
    by_cases hc : i < 2 ∨ s.1.getD i.toNat false = true
    · have e : vis l (f + 1) i s = (true, s) := by rw [vis, if_pos hc]
      have hm : i < 2 ∨ i ∈ rng s.2 := by
        rcases hc with h | h
        · exact .inl h
        · by_cases h2' : i < 2
          · exact .inl h2'
          · right; rw [rng_mem]; have := (hs.2.2 i.toNat (by omega) (by omega)).1 h; omega
      have e2 : rvis l (f + 1) i (rng s.2) = rng s.2 := by rw [rvis, if_pos hm]
      rw [e, e2]
      exact ⟨fun _ => ⟨hs, rfl⟩, fun h => by cases h⟩
    · have hm : ¬ (i < 2 ∨ i ∈ rng s.2) := by
        rintro (h | h)
        · exact hc (.inl h)
        · rw [rng_mem] at h
          exact hc (.inr ((hs.2.2 i.toNat (by omega) (by omega)).2 (by omega)))
      have hi : 2 ≤ i := by omega
      have hge : s.2 ≤ i := by
        apply Decidable.byContradiction
        intro h
        exact hm (.inr ((rng_mem _ _).2 (by omega)))
      have hv := hV (i - 2).toNat (by omega)
      have ih1 := both_vis hV f (l.getD (i - 2).toNat (0, 0, 0)).2.1 s (by omega) (by omega) (by omega) hs
      rw [rvis, if_neg hm]
      by_cases c1 : (vis l f (l.getD (i - 2).toNat (0, 0, 0)).2.1 s).1 = false
      · have e : vis l (f + 1) i s = (false, (vis l f (l.getD (i - 2).toNat (0, 0, 0)).2.1 s).2) := by rw [vis, if_neg hc, if_pos c1]
        rw [e]
        exact ⟨fun h => (by cases h), fun _ => (rvis_off f _ _ (ih1.2 c1)).more _⟩
      · obtain ⟨u1, r1⟩ := ih1.1 (by simpa using c1)
        have ih2 := both_vis hV f (l.getD (i - 2).toNat (0, 0, 0)).2.2 (vis l f (l.getD (i - 2).toNat (0, 0, 0)).2.1 s).2 (by omega) (by omega) (by omega) u1
        rw [r1]
        by_cases c2 : (vis l f (l.getD (i - 2).toNat (0, 0, 0)).2.2 (vis l f (l.getD (i - 2).toNat (0, 0, 0)).2.1 s).2).1 = false
        · have e : vis l (f + 1) i s = (false, (vis l f (l.getD (i - 2).toNat (0, 0, 0)).2.2 (vis l f (l.getD (i - 2).toNat (0, 0, 0)).2.1 s).2).2) := by rw [vis, if_neg hc, if_neg c1, if_pos c2]
          rw [e]
          exact ⟨fun h => (by cases h), fun _ => (ih2.2 c2).more _⟩
        · obtain ⟨u2, r2⟩ := ih2.1 (by simpa using c2)
          rw [r2]
          generalize hw : (vis l f (l.getD (i - 2).toNat (0, 0, 0)).2.2 (vis l f (l.getD (i - 2).toNat (0, 0, 0)).2.1 s).2).2 = w at u2 ih2 r2 ⊢
          have hmem : i ∉ rng w.2 := by
            intro hm'
            rw [← r2, ← r1] at hm'
            rcases rvis_mem hV f _ _ (by omega) i hm' with h | h
            · rcases rvis_mem hV f _ _ (by omega) i h with h | h
              · exact hm (.inr h)
              · omega
            · omega
          rw [rng_mem] at hmem
          by_cases c3 : i ≠ w.2
          · have e : vis l (f + 1) i s = (false, w) := by rw [vis, if_neg hc, if_neg c1, if_neg c2, hw, if_pos c3]
            rw [e]
            refine ⟨fun h => (by cases h), fun _ => ⟨(w.2 - 2).toNat, by omega, by simp [rng_len], ?_⟩⟩
            rw [List.getD_eq_getElem?_getD, List.getElem?_append_right (by rw [rng_len]; exact Nat.le_refl _), rng_len]
            have := u2.2.1
            simp
            omega
          · have c3 : i = w.2 := Decidable.not_not.1 c3
            have e : vis l (f + 1) i s = (true, w.1.set i.toNat true, w.2 + 1) := by rw [vis, if_neg hc, if_neg c1, if_neg c2, hw, if_neg (fun h => h c3)]
            rw [e]
            refine ⟨fun _ => ⟨⟨⟨by simpa using u2.1.1, ?_, ?_⟩, ?_, ?_⟩, ?_⟩, fun h => (by cases h)⟩
            · show 0 ≤ w.2 + 1; omega
            · show w.2 + 1 ≤ _; omega
            · show 2 ≤ w.2 + 1; omega
            · intro j hj hj2
              show (w.1.set i.toNat true).getD j false = true ↔ (j : Int) < w.2 + 1
              have hlen := u2.1.1
              rw [set_get _ _ _ (by omega)]
              by_cases ej : j = i.toNat
              · rw [if_pos ej]; simp; omega
              · rw [if_neg ej, u2.2.2 j hj hj2]; omega
            · show rng w.2 ++ [i] = rng (w.2 + 1)
              rw [rng_succ _ u2.2.1, c3]

/-- The reference's last test. -/
def okFrom (l : List Cho) (s : List Int) : Prop := ∀ j, j < l.length → j < s.length ∧ s.getD j 0 = (j : Int) + 2

theorem fin_iff {l : List Cho} {r : Int} (hV : Valid l) (hr : 0 ≤ r ∧ r < l.length + 2) : fin l r = true ↔ okFrom l (rvis l (r.toNat + 1) r []) := by
  have hup : Upto l (List.replicate (l.length + 2) false, 2) := by
    refine ⟨⟨by simp, by show (0 : Int) ≤ 2; decide, by show (2 : Int) ≤ (l.length : Int) + 2; omega⟩, Int.le_refl _, fun i hi h2 => ?_⟩
    have : (List.replicate (l.length + 2) false).getD i false = false := by
      rw [List.getD_eq_getElem?_getD, List.getElem?_replicate]; split <;> rfl
    show (List.replicate (l.length + 2) false).getD i false = true ↔ (i : Int) < 2
    rw [this]
    simp
    omega
  have hb := both_vis hV (r.toNat + 1) r _ hr.1 (by omega) hr.2 hup
  have e0 : rng (2 : Int) = [] := rfl
  simp only [e0] at hb
  unfold fin
  generalize vis l (r.toNat + 1) r (List.replicate (l.length + 2) false, 2) = q at hb
  cases h1 : q.1 with
  | false =>
    obtain ⟨j, h2, h3, h4⟩ := hb.2 h1
    simp only [Bool.false_and, Bool.false_eq_true, false_iff]
    intro h
    exact h4 (h j h2).2
  | true =>
    obtain ⟨u, e⟩ := hb.1 h1
    rw [e]
    simp only [Bool.true_and, decide_eq_true_eq]
    constructor
    · intro h j hj
      rw [h]
      refine ⟨by rw [rng_len]; omega, rng_get _ _ (by omega)⟩
    · intro h
      have hle := u.1.2.2
      by_cases hl : l.length = 0
      · have := u.2.1; omega
      · have := (h (l.length - 1) (by omega)).1
        rw [rng_len] at this
        omega
end Sp
end Go.Um

/- Plain functions: values and tables of decision diagrams. No program in sight. No condition. -/



namespace Go.Um
namespace Sp

def dval (l : List Cho) (a : List Bool) : Nat → Int → Bool
  | 0, i => decide (i = 1)
  | f + 1, i => if i < 2 then decide (i = 1) else dval l a f (if a.getD ((l.getD (i - 2).toNat (0, 0, 0)).1 - 1).toNat false = true then (l.getD (i - 2).toNat (0, 0, 0)).2.2 else (l.getD (i - 2).toNat (0, 0, 0)).2.1)
def dvalue (l : List Cho) (r : Int) (a : List Bool) : Bool := dval l a r.toNat r

theorem dval_fuel {l : List Cho} (hV : Valid l) (a : List Bool) : ∀ (f g : Nat) (i : Int), i ≤ f → i ≤ g → i < l.length + 2 → dval l a f i = dval l a g i
  | 0, 0, i, _, _, _ => rfl
  | 0, g + 1, i, h, _, _ => by rw [dval, dval, if_pos (by omega)]
  | f + 1, 0, i, _, h, _ => by rw [dval, dval, if_pos (by omega)]
  | f + 1, g + 1, i, h1, h2, h3 => by
    rw [dval, dval]
    split
    · rfl
    · have hv := hV (i - 2).toNat (by omega)
      refine dval_fuel hV a f g _ ?_ ?_ ?_ <;> split <;> omega

theorem dval_step {l : List Cho} (hV : Valid l) (a : List Bool) (i j : Int) (h2 : 2 ≤ i) (h3 : i < l.length + 2) (hj : j = if a.getD ((l.getD (i - 2).toNat (0, 0, 0)).1 - 1).toNat false = true then (l.getD (i - 2).toNat (0, 0, 0)).2.2 else (l.getD (i - 2).toNat (0, 0, 0)).2.1) :
    dval l a i.toNat i = dval l a j.toNat j := by
  have e : i.toNat = (i.toNat - 1) + 1 := by omega
  have hv := hV (i - 2).toNat (by omega)
  rw [e, dval, if_neg (by omega), ← hj]
  refine dval_fuel hV a _ _ _ ?_ ?_ ?_ <;> (rw [hj]; split <;> omega)
theorem dval_end {l : List Cho} (a : List Bool) (i : Int) (h0 : 0 ≤ i) (h : i < 2) : dval l a i.toNat i = decide (i = 1) := by
  cases e : i.toNat with
  | zero => rw [dval]
  | succ f => rw [dval, if_pos h]

/-- The table of a function. -/
def dtab (p : List Bool → Bool) (n : Nat) : List Bool := (List.range (2 ^ n)).map fun (w : Nat) => p (bits n w)
def b01 (b : Bool) : Int := if b then 1 else 0
def btab (p : List Bool → Bool) (n : Nat) : List Int := (dtab p n).map b01
theorem dtab_len (p : List Bool → Bool) (n : Nat) : (dtab p n).length = 2 ^ n := by simp [dtab]
theorem btab_len (p : List Bool → Bool) (n : Nat) : (btab p n).length = 2 ^ n := by simp [btab, dtab]
theorem dtab_at (p : List Bool → Bool) (n i : Nat) (h : i < 2 ^ n) : (dtab p n).getD i false = p (bits n i) := by
  rw [List.getD_eq_getElem?_getD, List.getElem?_eq_getElem (by rw [dtab_len]; exact h)]; simp [dtab]
theorem btab_at (p : List Bool → Bool) (n i : Nat) (h : i < 2 ^ n) : (btab p n).getD i 0 = b01 (p (bits n i)) := by
  rw [List.getD_eq_getElem?_getD, List.getElem?_eq_getElem (by rw [btab_len]; exact h)]; simp [btab, dtab]
theorem b01_le (b : Bool) : 0 ≤ b01 b ∧ b01 b ≤ 1 := by cases b <;> decide
theorem b01_one (b : Bool) : b01 b = 1 ↔ b = true := by cases b <;> decide

theorem btab_yes {p : List Bool → Bool} {n i : Nat} (h : i < 2 ^ n) (hp : p (bits n i) = true) : ((btab p n).take i ++ List.replicate (2 ^ n - i) 0).set i 1 = (btab p n).take (i + 1) ++ List.replicate (2 ^ n - (i + 1)) 0 := by
  have hl : ((btab p n).take i).length = i := by rw [List.length_take, btab_len]; omega
  have e1 : (btab p n).getD i 0 = 1 := by rw [btab_at p n i h, hp]; rfl
  rw [take_getD _ i 0 (by rw [btab_len]; exact h), e1, List.set_append_right _ _ (by omega), hl, Nat.sub_self]
  rw [show 2 ^ n - i = (2 ^ n - (i + 1)) + 1 by omega, List.replicate_succ]
  simp
theorem btab_no {p : List Bool → Bool} {n i : Nat} (h : i < 2 ^ n) (hp : p (bits n i) = false) : (btab p n).take i ++ List.replicate (2 ^ n - i) 0 = (btab p n).take (i + 1) ++ List.replicate (2 ^ n - (i + 1)) 0 := by
  have e1 : (btab p n).getD i 0 = 0 := by rw [btab_at p n i h, hp]; rfl
  rw [take_getD _ i 0 (by rw [btab_len]; exact h), e1]
  rw [show 2 ^ n - i = (2 ^ n - (i + 1)) + 1 by omega, List.replicate_succ]
  simp

/-- How many are true. -/
def cnt (t : List Bool) : Nat := (t.filter id).length
/-- Where a table is true. -/
def trsTo (t : List Bool) (i : Nat) : List Int := ((List.range i).filter fun w => t.getD w false).map fun (w : Nat) => (w : Int)
def trs (t : List Bool) : List Int := trsTo t t.length
theorem pow_int (n : Nat) : (2 : Int) ^ n = ((2 ^ n : Nat) : Int) := by simp
theorem pow16 {n : Nat} (h : n ≤ 16) : 2 ^ n ≤ 65536 := Nat.pow_le_pow_right (n := 2) (by decide) h

def tabOf (n : Int) (l : List Cho) (r : Int) : List Bool := dtab (dvalue l r) n.toNat
def diaValue (n : Int) (l : List Cho) (r : Int) (a : List Bool) : Bool × Int × Int :=
  if (diaCheck n l r).1 ≠ 0 then (false, diaCheck n l r) else if (a.length : Int) ≠ n then (false, (9, -1)) else (dvalue l r a, (0, 0))
def diaCount (n : Int) (l : List Cho) (r : Int) : Int × Int × Int :=
  if (diaCheck n l r).1 ≠ 0 then (0, diaCheck n l r) else ((cnt (tabOf n l r) : Int), (0, 0))
def diaPick (n : Int) (l : List Cho) (r k : Int) : List Bool × Int × Int :=
  if (diaCheck n l r).1 ≠ 0 then ([], diaCheck n l r) else if 0 ≤ k ∧ k < (cnt (tabOf n l r) : Int) then (bits n.toNat ((trs (tabOf n l r)).getD k.toNat 0), (0, 0)) else ([], (3, -1))

theorem bools_eq {a b : List Bool} {i : Nat} (hl : a.length = b.length) (hi : a.length ≤ i) (h : ∀ j, j < i → a.getD j false = b.getD j false) : a = b := by
  apply List.ext_getElem hl
  intro j h1 h2
  have := h j (by omega)
  rw [List.getD_eq_getElem?_getD, List.getD_eq_getElem?_getD, List.getElem?_eq_getElem h1, List.getElem?_eq_getElem h2] at this
  simpa using this
end Sp
end Go.Um

/- Plain functions: diagrams out of tables. No program in sight. No condition. -/

namespace Go.Um
namespace Sp

def knownOf (L : List Cho) : List (Cho × Int) := L.zipIdx.map fun p => (p.1, (p.2 : Int) + 2)
abbrev Seen := List (ByteArray × Int)
/-- The node of a part of a table, as the program makes it: with what is known. -/
def nodeF : Nat → List Int → Int → List Cho × Seen → Int × List Cho × Seen
  | 0, t, _, σ => (t.getD 0 0, σ)
  | m + 1, t, v, σ =>
    if (getL σ.2 (strOfNums t)).isSome = true then ((getL σ.2 (strOfNums t)).getD 0, σ)
    else if (nodeF m (t.take (2 ^ m)) (v + 1) σ).1 = (nodeF m ((t.drop (2 ^ m)).take (t.length - 2 ^ m)) (v + 1) (nodeF m (t.take (2 ^ m)) (v + 1) σ).2).1 then
      ((nodeF m (t.take (2 ^ m)) (v + 1) σ).1, (nodeF m ((t.drop (2 ^ m)).take (t.length - 2 ^ m)) (v + 1) (nodeF m (t.take (2 ^ m)) (v + 1) σ).2).2.1, putL (nodeF m ((t.drop (2 ^ m)).take (t.length - 2 ^ m)) (v + 1) (nodeF m (t.take (2 ^ m)) (v + 1) σ).2).2.2 (strOfNums t) (nodeF m (t.take (2 ^ m)) (v + 1) σ).1)
    else if (getL (knownOf (nodeF m ((t.drop (2 ^ m)).take (t.length - 2 ^ m)) (v + 1) (nodeF m (t.take (2 ^ m)) (v + 1) σ).2).2.1) (v, (nodeF m (t.take (2 ^ m)) (v + 1) σ).1, (nodeF m ((t.drop (2 ^ m)).take (t.length - 2 ^ m)) (v + 1) (nodeF m (t.take (2 ^ m)) (v + 1) σ).2).1)).isSome = true then
      ((getL (knownOf (nodeF m ((t.drop (2 ^ m)).take (t.length - 2 ^ m)) (v + 1) (nodeF m (t.take (2 ^ m)) (v + 1) σ).2).2.1) (v, (nodeF m (t.take (2 ^ m)) (v + 1) σ).1, (nodeF m ((t.drop (2 ^ m)).take (t.length - 2 ^ m)) (v + 1) (nodeF m (t.take (2 ^ m)) (v + 1) σ).2).1)).getD 0, (nodeF m ((t.drop (2 ^ m)).take (t.length - 2 ^ m)) (v + 1) (nodeF m (t.take (2 ^ m)) (v + 1) σ).2).2.1,
        putL (nodeF m ((t.drop (2 ^ m)).take (t.length - 2 ^ m)) (v + 1) (nodeF m (t.take (2 ^ m)) (v + 1) σ).2).2.2 (strOfNums t) ((getL (knownOf (nodeF m ((t.drop (2 ^ m)).take (t.length - 2 ^ m)) (v + 1) (nodeF m (t.take (2 ^ m)) (v + 1) σ).2).2.1) (v, (nodeF m (t.take (2 ^ m)) (v + 1) σ).1, (nodeF m ((t.drop (2 ^ m)).take (t.length - 2 ^ m)) (v + 1) (nodeF m (t.take (2 ^ m)) (v + 1) σ).2).1)).getD 0))
    else
      ((((nodeF m ((t.drop (2 ^ m)).take (t.length - 2 ^ m)) (v + 1) (nodeF m (t.take (2 ^ m)) (v + 1) σ).2).2.1 ++ [(v, (nodeF m (t.take (2 ^ m)) (v + 1) σ).1, (nodeF m ((t.drop (2 ^ m)).take (t.length - 2 ^ m)) (v + 1) (nodeF m (t.take (2 ^ m)) (v + 1) σ).2).1)]).length : Int) + 1,
        (nodeF m ((t.drop (2 ^ m)).take (t.length - 2 ^ m)) (v + 1) (nodeF m (t.take (2 ^ m)) (v + 1) σ).2).2.1 ++ [(v, (nodeF m (t.take (2 ^ m)) (v + 1) σ).1, (nodeF m ((t.drop (2 ^ m)).take (t.length - 2 ^ m)) (v + 1) (nodeF m (t.take (2 ^ m)) (v + 1) σ).2).1)],
        putL (nodeF m ((t.drop (2 ^ m)).take (t.length - 2 ^ m)) (v + 1) (nodeF m (t.take (2 ^ m)) (v + 1) σ).2).2.2 (strOfNums t) ((((nodeF m ((t.drop (2 ^ m)).take (t.length - 2 ^ m)) (v + 1) (nodeF m (t.take (2 ^ m)) (v + 1) σ).2).2.1 ++ [(v, (nodeF m (t.take (2 ^ m)) (v + 1) σ).1, (nodeF m ((t.drop (2 ^ m)).take (t.length - 2 ^ m)) (v + 1) (nodeF m (t.take (2 ^ m)) (v + 1) σ).2).1)]).length : Int) + 1))

/-- One step, by what the halves come to. -/
theorem nodeF_step {m : Nat} {t : List Int} {v : Int} {σ : List Cho × Seen} {A B : Int × List Cho × Seen} (hA : nodeF m (t.take (2 ^ m)) (v + 1) σ = A) (hB : nodeF m ((t.drop (2 ^ m)).take (t.length - 2 ^ m)) (v + 1) A.2 = B) :
    nodeF (m + 1) t v σ = if (getL σ.2 (strOfNums t)).isSome = true then ((getL σ.2 (strOfNums t)).getD 0, σ)
    else if A.1 = B.1 then (A.1, B.2.1, putL B.2.2 (strOfNums t) A.1)
    else if (getL (knownOf B.2.1) (v, A.1, B.1)).isSome = true then ((getL (knownOf B.2.1) (v, A.1, B.1)).getD 0, B.2.1, putL B.2.2 (strOfNums t) ((getL (knownOf B.2.1) (v, A.1, B.1)).getD 0))
    else (((B.2.1 ++ [(v, A.1, B.1)]).length : Int) + 1, B.2.1 ++ [(v, A.1, B.1)], putL B.2.2 (strOfNums t) (((B.2.1 ++ [(v, A.1, B.1)]).length : Int) + 1)) := by
  subst hB hA
  rw [nodeF]

theorem nodeF_len : ∀ (m : Nat) (t : List Int) (v : Int) (σ : List Cho × Seen), (nodeF m t v σ).2.1.length + 1 ≤ σ.1.length + 2 ^ m
  | 0, t, v, σ => by simp [nodeF]
  | m + 1, t, v, σ => by
    have h1 := nodeF_len m (t.take (2 ^ m)) (v + 1) σ
    have h2 := nodeF_len m ((t.drop (2 ^ m)).take (t.length - 2 ^ m)) (v + 1) (nodeF m (t.take (2 ^ m)) (v + 1) σ).2
    have hp : 2 ^ (m + 1) = 2 ^ m + 2 ^ m := by rw [Nat.pow_succ]; omega
    have hp1 : 1 ≤ 2 ^ m := Nat.one_le_two_pow
    rw [nodeF_step rfl rfl]
    split
    · simp only; omega
    · split
      · simp only; omega
      · split
        · simp only; omega
        · simp only [List.length_append, List.length_singleton]; omega

/-! ### What is known -/
theorem getL_app {κ α : Type} [DecidableEq κ] : ∀ (m m' : List (κ × α)) (k : κ), getL (m ++ m') k = (getL m k).or (getL m' k)
  | [], m', k => by simp [getL]
  | (k0, v0) :: m, m', k => by
    simp only [List.cons_append, getL]
    split
    · rfl
    · exact getL_app m m' k
theorem getL_put {κ α : Type} [DecidableEq κ] : ∀ (m : List (κ × α)) (k k' : κ) (v : α), getL (putL m k v) k' = if k' = k then Option.some v else getL m k'
  | [], k, k', v => by simp [putL, getL]
  | (k0, v0) :: m, k, k', v => by
    unfold putL
    by_cases h : k = k0
    · subst h
      simp only [if_true, getL]
      split <;> rfl
    · simp only [h, if_false, getL, getL_put m k k' v]
      by_cases h' : k' = k0
      · subst h'
        have : ¬ k' = k := fun e => h e.symm
        simp [this]
      · simp [h']
theorem known_app (L X : List Cho) : knownOf (L ++ X) = knownOf L ++ (X.zipIdx L.length).map fun p => (p.1, (p.2 : Int) + 2) := by
  simp [knownOf, List.zipIdx_append]
theorem known_none : ∀ (X : List Cho) (k : Nat) (c : Cho), getL ((X.zipIdx k).map fun p => (p.1, (p.2 : Int) + 2)) c = none ↔ c ∉ X
  | [], k, c => by simp [getL]
  | x :: X, k, c => by
    simp only [List.zipIdx_cons, List.map_cons, getL]
    by_cases h : c = x
    · simp [h]
    · simp [h, known_none X (k + 1) c]
theorem known_not (L : List Cho) (c : Cho) : getL (knownOf L) c = none ↔ c ∉ L := known_none L 0 c
theorem known_more {L : List Cho} {c : Cho} {i : Int} (h : getL (knownOf L) c = Option.some i) (X : List Cho) : getL (knownOf (L ++ X)) c = Option.some i := by
  rw [known_app, getL_app, h]; rfl
theorem known_new {L : List Cho} {c : Cho} (h : c ∉ L) : getL (knownOf (L ++ [c])) c = Option.some ((L.length : Int) + 2) := by
  rw [known_app, getL_app, (known_not L c).2 h]; simp [getL]
theorem known_put {L : List Cho} {c : Cho} (h : c ∉ L) : putL (knownOf L) c (((L ++ [c]).length : Int) + 1) = knownOf (L ++ [c]) := by
  rw [putL_new _ _ _ ((known_not L c).2 h), known_app]
  simp
  omega
theorem known_at {L : List Cho} {c : Cho} {i : Nat} (hi : i < L.length) (hc : L.getD i (0, 0, 0) = c) (hn : ∀ y ∈ L.take i, y ≠ c) : getL (knownOf L) c = Option.some ((i : Int) + 2) := by
  have e : L = L.take i ++ (c :: L.drop (i + 1)) := by
    rw [← hc, List.getD_eq_getElem?_getD, List.getElem?_eq_getElem hi]
    simp
  have hl : (L.take i).length = i := by rw [List.length_take]; omega
  rw [e, known_app, getL_app, (known_not _ _).2 (fun h => hn c h rfl), hl]
  simp [getL]
theorem known_is {L : List Cho} {c : Cho} {i : Int} (h : getL (knownOf L) c = Option.some i) : ∃ j, j < L.length ∧ L.getD j (0, 0, 0) = c ∧ i = (j : Int) + 2 ∧ ∀ y ∈ L.take j, y ≠ c := by
  have hc : c ∈ L := Classical.byContradiction fun hn => by rw [(known_not L c).2 hn] at h; cases h
  obtain ⟨A, B, e, hA⟩ : ∃ A B, L = A ++ c :: B ∧ c ∉ A := by
    clear h
    induction L with
    | nil => cases hc
    | cons x L ih =>
      by_cases hx : x = c
      · exact ⟨[], L, by simp [hx], by simp⟩
      · have : c ∈ L := by
          rcases List.mem_cons.1 hc with h | h
          · exact absurd h.symm hx
          · exact h
        obtain ⟨A, B, e, hA⟩ := ih this
        exact ⟨x :: A, B, by simp [e], by simp [hA]; exact fun e => hx e.symm⟩
  have hg : L.getD A.length (0, 0, 0) = c := by simp [e]
  have ht : L.take A.length = A := by simp [e]
  have hlt : A.length < L.length := by simp [e]
  have h2 := known_at hlt hg (by rw [ht]; exact fun y hy hyc => hA (hyc ▸ hy))
  rw [h] at h2
  exact ⟨A.length, hlt, hg, by simpa using h2, by rw [ht]; exact fun y hy hyc => hA (hyc ▸ hy)⟩

/-! ### The one diagram of a table -/
def growJ (l : List Cho) (v a b : Int) : List Cho × Int :=
  if a = b then (l, a) else if (getL (knownOf l) (v, a, b)).isSome = true then (l, (getL (knownOf l) (v, a, b)).getD 0) else (l ++ [(v, a, b)], (l.length : Int) + 2)
def grow : Nat → List Cho → List Bool → Int → List Cho × Int
  | 0, l, t, _ => (l, b01 (t.getD 0 false))
  | m + 1, l, t, v => growJ (grow m (grow m l (t.take (2 ^ m)) (v + 1)).1 ((t.drop (2 ^ m)).take (t.length - 2 ^ m)) (v + 1)).1 v (grow m l (t.take (2 ^ m)) (v + 1)).2 (grow m (grow m l (t.take (2 ^ m)) (v + 1)).1 ((t.drop (2 ^ m)).take (t.length - 2 ^ m)) (v + 1)).2

theorem grow_step {m : Nat} {l : List Cho} {t : List Bool} {v : Int} {A B : List Cho × Int} (hA : grow m l (t.take (2 ^ m)) (v + 1) = A) (hB : grow m A.1 ((t.drop (2 ^ m)).take (t.length - 2 ^ m)) (v + 1) = B) : grow (m + 1) l t v = growJ B.1 v A.2 B.2 := by
  subst hB hA
  rw [grow]

theorem growJ_cases (l : List Cho) (v a b : Int) : (a = b ∧ growJ l v a b = (l, a)) ∨ (a ≠ b ∧ ∃ i, getL (knownOf l) (v, a, b) = Option.some i ∧ growJ l v a b = (l, i)) ∨ (a ≠ b ∧ (v, a, b) ∉ l ∧ growJ l v a b = (l ++ [(v, a, b)], (l.length : Int) + 2)) := by
  unfold growJ
  by_cases h : a = b
  · exact .inl ⟨h, by rw [if_pos h]⟩
  · cases hk : getL (knownOf l) (v, a, b) with
    | none => exact .inr (.inr ⟨h, (known_not _ _).1 hk, by simp [h]⟩)
    | some i => exact .inr (.inl ⟨h, i, rfl, by simp [h]⟩)

theorem grow_ext : ∀ (m : Nat) (l : List Cho) (t : List Bool) (v : Int), ∃ X, (grow m l t v).1 = l ++ X
  | 0, l, t, v => ⟨[], by simp [grow]⟩
  | m + 1, l, t, v => by
    obtain ⟨X, hX⟩ := grow_ext m l (t.take (2 ^ m)) (v + 1)
    obtain ⟨Y, hY⟩ := grow_ext m (grow m l (t.take (2 ^ m)) (v + 1)).1 ((t.drop (2 ^ m)).take (t.length - 2 ^ m)) (v + 1)
    rw [grow_step rfl rfl]
    rcases growJ_cases (grow m (grow m l (t.take (2 ^ m)) (v + 1)).1 ((t.drop (2 ^ m)).take (t.length - 2 ^ m)) (v + 1)).1 v (grow m l (t.take (2 ^ m)) (v + 1)).2 (grow m (grow m l (t.take (2 ^ m)) (v + 1)).1 ((t.drop (2 ^ m)).take (t.length - 2 ^ m)) (v + 1)).2 with ⟨_, h⟩ | ⟨_, i, _, h⟩ | ⟨_, _, h⟩
    · rw [h, hY, hX]; exact ⟨X ++ Y, by simp⟩
    · rw [h, hY, hX]; exact ⟨X ++ Y, by simp⟩
    · rw [h, hY, hX]; exact ⟨X ++ (Y ++ [_]), by simp; rfl⟩

theorem grow_more : ∀ (m : Nat) (l : List Cho) (t : List Bool) (v i : Int), grow m l t v = (l, i) → ∀ X, grow m (l ++ X) t v = (l ++ X, i)
  | 0, l, t, v, i, h, X => by simp only [grow, Prod.mk.injEq, true_and] at h ⊢; exact h
  | m + 1, l, t, v, i, h, X => by
    obtain ⟨⟨l1, a⟩, hA⟩ : ∃ A, grow m l (t.take (2 ^ m)) (v + 1) = A := ⟨_, rfl⟩
    obtain ⟨⟨l2, b⟩, hB⟩ : ∃ B, grow m l1 ((t.drop (2 ^ m)).take (t.length - 2 ^ m)) (v + 1) = B := ⟨_, rfl⟩
    obtain ⟨X1, h1⟩ := grow_ext m l (t.take (2 ^ m)) (v + 1)
    obtain ⟨X2, h2⟩ := grow_ext m l1 ((t.drop (2 ^ m)).take (t.length - 2 ^ m)) (v + 1)
    rw [hA] at h1
    rw [hB] at h2
    simp only at h1 h2
    rw [grow_step hA hB] at h
    simp only at h
    have hl : l2 = l ∧ l1 = l := by
      have hlen : l2.length ≤ l.length := by
        rcases growJ_cases l2 v a b with ⟨_, e⟩ | ⟨_, _, _, e⟩ | ⟨_, _, e⟩ <;> rw [e] at h <;> simp only [Prod.mk.injEq] at h <;> rw [← h.1] <;> simp
      have e2 : X2 = [] := by rw [h2, h1] at hlen; simp at hlen; exact List.eq_nil_of_length_eq_zero (by omega)
      have e1 : X1 = [] := by rw [h2, h1] at hlen; simp at hlen; exact List.eq_nil_of_length_eq_zero (by omega)
      rw [h2, h1, e1, e2]; simp
    obtain ⟨rfl, rfl⟩ := hl
    have ha := grow_more m _ _ _ _ hA X
    have hb := grow_more m _ _ _ _ hB X
    rw [grow_step ha hb]
    simp only
    rcases growJ_cases l1 v a b with ⟨e, e'⟩ | ⟨e, j, hj, e'⟩ | ⟨_, _, e'⟩
    · rw [e'] at h; simp only [Prod.mk.injEq] at h; rw [growJ, if_pos e, h.2]
    · rw [e'] at h; simp only [Prod.mk.injEq] at h
      have := known_more hj X
      rw [growJ, if_neg e, this]; simp [h.2]
    · rw [e'] at h; simp only [Prod.mk.injEq] at h
      have := congrArg List.length h.1
      simp at this

theorem grow_idem : ∀ (m : Nat) (l : List Cho) (t : List Bool) (v : Int), grow m (grow m l t v).1 t v = grow m l t v
  | 0, l, t, v => by simp [grow]
  | m + 1, l, t, v => by
    obtain ⟨⟨l1, a⟩, hA⟩ : ∃ A, grow m l (t.take (2 ^ m)) (v + 1) = A := ⟨_, rfl⟩
    obtain ⟨⟨l2, b⟩, hB⟩ : ∃ B, grow m l1 ((t.drop (2 ^ m)).take (t.length - 2 ^ m)) (v + 1) = B := ⟨_, rfl⟩
    obtain ⟨X2, h2⟩ := grow_ext m l1 ((t.drop (2 ^ m)).take (t.length - 2 ^ m)) (v + 1)
    rw [hB] at h2
    simp only at h2
    have i1 := grow_idem m l (t.take (2 ^ m)) (v + 1)
    rw [hA] at i1
    have i2 := grow_idem m l1 ((t.drop (2 ^ m)).take (t.length - 2 ^ m)) (v + 1)
    rw [hB] at i2
    simp only at i1 i2
    rw [grow_step hA hB]
    simp only
    have i1' := grow_more m _ _ _ _ i1 X2
    rw [← h2] at i1'
    rcases growJ_cases l2 v a b with ⟨e, e'⟩ | ⟨e, j, hj, e'⟩ | ⟨e, hn, e'⟩
    · rw [e', grow_step i1' i2]; simp only; exact e'
    · rw [e', grow_step i1' i2]; simp only; exact e'
    · rw [e', grow_step (grow_more m _ _ _ _ i1' [(v, a, b)]) (grow_more m _ _ _ _ i2 [(v, a, b)])]
      simp only
      have := known_new hn
      rw [growJ, if_neg e, this]; simp

/-! ### What was seen -/
theorem str_inj {t t' : List Bool} (h : strOfNums (t.map b01) = strOfNums (t'.map b01)) : t = t' := by
  have h1 : ((t.map b01).map fun n => UInt8.ofNat n.toNat) = ((t'.map b01).map fun n => UInt8.ofNat n.toNat) := by
    have := congrArg (fun b : ByteArray => b.data.toList) h
    simpa [strOfNums] using this
  rw [List.map_map, List.map_map] at h1
  exact (List.map_inj_right (fun x y hxy => by cases x <;> cases y <;> first | rfl | (exfalso; revert hxy; decide))).1 h1

def SeenOk (n : Nat) (L : List Cho) (sn : Seen) : Prop := ∀ (m : Nat) (t : List Bool) (i : Int), m + 1 ≤ n → t.length = 2 ^ (m + 1) → getL sn (strOfNums (t.map b01)) = Option.some i → grow (m + 1) L t ((n : Int) - m) = (L, i)

theorem SeenOk.more {n : Nat} {L : List Cho} {sn : Seen} (h : SeenOk n L sn) (X : List Cho) : SeenOk n (L ++ X) sn := fun m t i hm ht hg => grow_more _ _ _ _ _ (h m t i hm ht hg) X

theorem SeenOk.put {n : Nat} {L : List Cho} {sn : Seen} (h : SeenOk n L sn) {m : Nat} {t : List Bool} {i : Int} (ht : t.length = 2 ^ (m + 1)) (hg : grow (m + 1) L t ((n : Int) - m) = (L, i)) : SeenOk n L (putL sn (strOfNums (t.map b01)) i) := by
  intro m' t' i' hm' ht' hg'
  rw [getL_put] at hg'
  split at hg'
  · rename_i e
    have e := str_inj e
    subst e
    have hpw : 2 ^ (m' + 1) = 2 ^ (m + 1) := by rw [← ht', ← ht]
    obtain rfl : m' = m := by
      rcases Nat.lt_trichotomy m' m with h1 | h1 | h1
      · have := Nat.pow_lt_pow_right (a := 2) (by decide) (show m' + 1 < m + 1 by omega); omega
      · exact h1
      · have := Nat.pow_lt_pow_right (a := 2) (by decide) (show m + 1 < m' + 1 by omega); omega
    simp only [Option.some.injEq] at hg'
    rw [← hg']
    exact hg
  · exact h m' t' i' hm' ht' hg'

theorem node_grow (n : Nat) : ∀ (m : Nat) (t : List Bool) (L : List Cho) (sn : Seen), t.length = 2 ^ m → m ≤ n → SeenOk n L sn →
    (nodeF m (t.map b01) ((n : Int) - m + 1) (L, sn)).1 = (grow m L t ((n : Int) - m + 1)).2 ∧ (nodeF m (t.map b01) ((n : Int) - m + 1) (L, sn)).2.1 = (grow m L t ((n : Int) - m + 1)).1 ∧
    SeenOk n (nodeF m (t.map b01) ((n : Int) - m + 1) (L, sn)).2.1 (nodeF m (t.map b01) ((n : Int) - m + 1) (L, sn)).2.2
  | 0, t, L, sn, ht, hm, hs => by
    refine ⟨?_, rfl, hs⟩
    match t, ht with
    | [b], _ => rfl
  | m + 1, t, L, sn, ht, hm, hs => by
    have hp : 2 ^ (m + 1) = 2 ^ m + 2 ^ m := by rw [Nat.pow_succ]; omega
    have hv : (n : Int) - ((m + 1 : Nat) : Int) + 1 + 1 = (n : Int) - m + 1 := by omega
    have hv' : (n : Int) - ((m + 1 : Nat) : Int) + 1 = (n : Int) - m := by omega
    obtain ⟨g1, g2, g3⟩ := node_grow n m (t.take (2 ^ m)) L sn (by rw [List.length_take]; omega) (by omega) hs
    obtain ⟨A, hA⟩ : ∃ A, nodeF m ((t.take (2 ^ m)).map b01) ((n : Int) - m + 1) (L, sn) = A := ⟨_, rfl⟩
    rw [hA] at g1 g2 g3
    obtain ⟨k1, k2, k3⟩ := node_grow n m ((t.drop (2 ^ m)).take (t.length - 2 ^ m)) A.2.1 A.2.2 (by rw [List.length_take, List.length_drop]; omega) (by omega) g3
    obtain ⟨B, hB⟩ : ∃ B, nodeF m (((t.drop (2 ^ m)).take (t.length - 2 ^ m)).map b01) ((n : Int) - m + 1) A.2 = B := ⟨_, rfl⟩
    have hB' : nodeF m (((t.drop (2 ^ m)).take (t.length - 2 ^ m)).map b01) ((n : Int) - m + 1) (A.2.1, A.2.2) = B := hB
    rw [hB'] at k1 k2 k3
    have eA : nodeF m ((t.map b01).take (2 ^ m)) ((n : Int) - ((m + 1 : Nat) : Int) + 1 + 1) (L, sn) = A := by rw [hv, ← List.map_take]; exact hA
    have eB : nodeF m (((t.map b01).drop (2 ^ m)).take ((t.map b01).length - 2 ^ m)) ((n : Int) - ((m + 1 : Nat) : Int) + 1 + 1) A.2 = B := by rw [hv, ← List.map_drop, List.length_map, ← List.map_take]; exact hB
    have hG : grow (m + 1) L t ((n : Int) - ((m + 1 : Nat) : Int) + 1) = growJ B.2.1 ((n : Int) - ((m + 1 : Nat) : Int) + 1) A.1 B.1 := by
      rw [grow_step (A := (A.2.1, A.1)) (B := (B.2.1, B.1)) (by rw [hv]; exact Prod.ext g2.symm g1.symm) (by rw [hv]; exact Prod.ext k2.symm k1.symm)]
    rw [nodeF_step eA eB]
    have hid := grow_idem (m + 1) L t ((n : Int) - ((m + 1 : Nat) : Int) + 1)
    by_cases h0 : (getL sn (strOfNums (t.map b01))).isSome = true
    · obtain ⟨i, hi⟩ := Option.isSome_iff_exists.1 h0
      have := hs m t i (by omega) ht hi
      rw [if_pos h0, hv', this]
      simp only [hi, Option.getD_some, true_and]
      exact hs
    · rw [if_neg h0]
      rcases growJ_cases B.2.1 ((n : Int) - ((m + 1 : Nat) : Int) + 1) A.1 B.1 with ⟨e, e'⟩ | ⟨e, j, hj, e'⟩ | ⟨e, hn, e'⟩
      · rw [if_pos e, hG, e']
        rw [hG, e'] at hid
        rw [hv'] at hid
        exact ⟨rfl, rfl, k3.put ht hid⟩
      · rw [if_neg e, if_pos (by rw [hj]; rfl), hG, e', hj]
        rw [hG, e'] at hid
        rw [hv'] at hid
        exact ⟨rfl, rfl, k3.put ht hid⟩
      · rw [if_neg e, if_neg (by rw [(known_not _ _).2 hn]; decide), hG, e']
        rw [hG, e'] at hid
        rw [hv'] at hid ⊢
        have e2 : (((B.2.1 ++ [((n : Int) - m, A.1, B.1)]).length : Int) + 1) = (B.2.1.length : Int) + 2 := by simp; omega
        rw [e2]
        exact ⟨rfl, rfl, (k3.more [((n : Int) - m, A.1, B.1)]).put (i := (B.2.1.length : Int) + 2) ht hid⟩

/-- What the program builds of a table. -/
theorem node_built {n : Nat} {t : List Bool} (ht : t.length = 2 ^ n) : (nodeF n (t.map b01) 1 ([], [])).1 = (grow n [] t 1).2 ∧ (nodeF n (t.map b01) 1 ([], [])).2.1 = (grow n [] t 1).1 := by
  have h := node_grow n n t [] [] ht (Nat.le_refl _) (fun m t i _ _ hg => by simp [getL] at hg)
  have e : (n : Int) - n + 1 = 1 := by omega
  rw [e] at h
  exact ⟨h.1, h.2.1⟩
end Sp
end Go.Um

/- Plain functions: what is built, and what the laws of diagrams ask. No program in sight. No condition. -/

namespace Go.Um
namespace Sp

abbrev DF := List Cho × Int × Int × Int
def diaBuilt (n : Nat) (t : List Bool) : DF := if 4000 < (grow n [] t 1).1.length then ([], 0, 10, 0) else ((grow n [] t 1).1, (grow n [] t 1).2, 0, 0)
def tryWrong (n : Int) (ls : List (List Int)) : Int × Int := if (check n ls).1 = 0 ∧ 16 < n then (2, -1) else check n ls
def diaOf (n : Int) (ls : List (List Int)) : DF := if (check n ls).1 ≠ 0 then ([], 0, check n ls) else if 16 < n then ([], 0, 2, -1) else diaBuilt n.toNat (dtab (fun a => all a ls) n.toNat)

theorem grow_len : ∀ (m : Nat) (l : List Cho) (t : List Bool) (v : Int), (grow m l t v).1.length + 1 ≤ l.length + 2 ^ m
  | 0, l, t, v => by simp [grow]
  | m + 1, l, t, v => by
    have h1 := grow_len m l (t.take (2 ^ m)) (v + 1)
    have h2 := grow_len m (grow m l (t.take (2 ^ m)) (v + 1)).1 ((t.drop (2 ^ m)).take (t.length - 2 ^ m)) (v + 1)
    have hp : 2 ^ (m + 1) = 2 ^ m + 2 ^ m := by rw [Nat.pow_succ]; omega
    rw [grow_step rfl rfl]
    rcases growJ_cases (grow m (grow m l (t.take (2 ^ m)) (v + 1)).1 ((t.drop (2 ^ m)).take (t.length - 2 ^ m)) (v + 1)).1 v (grow m l (t.take (2 ^ m)) (v + 1)).2 (grow m (grow m l (t.take (2 ^ m)) (v + 1)).1 ((t.drop (2 ^ m)).take (t.length - 2 ^ m)) (v + 1)).2 with ⟨_, h⟩ | ⟨_, i, _, h⟩ | ⟨_, _, h⟩
    · rw [h]; simp only; omega
    · rw [h]; simp only; omega
    · rw [h]; simp only [List.length_append, List.length_singleton]; omega

/-- Of few variables there are never too many choices. -/
theorem built_few {n : Nat} {t : List Bool} (h : n ≤ 8) : diaBuilt n t = ((grow n [] t 1).1, (grow n [] t 1).2, 0, 0) := by
  have h1 := grow_len n [] t 1
  have h2 : 2 ^ n ≤ 256 := Nat.pow_le_pow_right (n := 2) (by decide) h
  simp at h1
  rw [diaBuilt, if_neg (by omega)]

theorem eq_of_getD {α : Type} {a b : List α} {i : Nat} {z : α} (hl : a.length = b.length) (hi : a.length ≤ i) (h : ∀ j, j < i → a.getD j z = b.getD j z) : a = b := by
  apply List.ext_getElem hl
  intro j h1 h2
  have := h j (by omega)
  rw [List.getD_eq_getElem?_getD, List.getD_eq_getElem?_getD, List.getElem?_eq_getElem h1, List.getElem?_eq_getElem h2] at this
  simpa using this

end Sp
end Go.Um

/- Plain law: of a table there is one diagram; it is as it must be, and tells the table. No program in sight. No condition. -/

namespace Go.Um
namespace Sp

theorem cho_mk {n : Int} {l : List Cho} {i : Nat} {c : Cho} (hc : l.getD i (0, 0, 0) = c) (h1 : 1 ≤ c.1 ∧ c.1 ≤ n) (h2 : 0 ≤ c.2.1 ∧ c.2.1 < (i : Int) + 2) (h3 : 0 ≤ c.2.2 ∧ c.2.2 < (i : Int) + 2) (h4 : c.2.1 ≠ c.2.2)
    (h5 : c.1 < lev l (n + 1) c.2.1) (h6 : c.1 < lev l (n + 1) c.2.2) (h7 : c ∉ l.take i) : choWrong n l i = 0 := by
  unfold choWrong
  rw [hc, if_neg (by omega), if_neg (by omega), if_neg h7]
theorem getD_app {l : List Cho} (X : List Cho) {i : Nat} (h : i < l.length) : (l ++ X).getD i (0, 0, 0) = l.getD i (0, 0, 0) := by
  rw [List.getD_eq_getElem?_getD, List.getD_eq_getElem?_getD, List.getElem?_append_left h]
theorem getD_new (l X : List Cho) (c : Cho) : (l ++ (c :: X)).getD l.length (0, 0, 0) = c := by
  rw [List.getD_eq_getElem?_getD, List.getElem?_append_right (Nat.le_refl _)]; simp
theorem lev_app {l : List Cho} (X : List Cho) (top i : Int) (h : i < l.length + 2) : lev (l ++ X) top i = lev l top i := by
  unfold lev
  split
  · rfl
  · rw [getD_app X (by omega)]
def GOK (n : Int) (l : List Cho) : Prop := ∀ j, j < l.length → choWrong n l j = 0
theorem cho_app {n : Int} {l : List Cho} (X : List Cho) {i : Nat} (hi : i < l.length) (h : choWrong n l i = 0) : choWrong n (l ++ X) i = 0 := by
  obtain ⟨h1, h2, h3, h4, h5, h6, h7⟩ := cho_ok h
  exact cho_mk (getD_app X hi) h1 h2 h3 h4 (by rw [lev_app X _ _ (by omega)]; exact h5) (by rw [lev_app X _ _ (by omega)]; exact h6) (by rw [List.take_append_of_le_length (by omega)]; exact h7)

abbrev T2 (m : Nat) (t : List Bool) : List Bool := (t.drop (2 ^ m)).take (t.length - 2 ^ m)

/-- What grows is in order; and the last number is the newest one, if there is a new one. -/
theorem grow_ok (n : Nat) : ∀ (m : Nat) (t : List Bool) (l : List Cho), m ≤ n → GOK n l →
    GOK n (grow m l t ((n : Int) - m + 1)).1 ∧ (0 ≤ (grow m l t ((n : Int) - m + 1)).2 ∧ (grow m l t ((n : Int) - m + 1)).2 < (grow m l t ((n : Int) - m + 1)).1.length + 2) ∧
    (n : Int) - m + 1 ≤ lev (grow m l t ((n : Int) - m + 1)).1 ((n : Int) + 1) (grow m l t ((n : Int) - m + 1)).2 ∧ ((grow m l t ((n : Int) - m + 1)).1 = l ∨ (grow m l t ((n : Int) - m + 1)).2 = (grow m l t ((n : Int) - m + 1)).1.length + 1)
  | 0, t, l, _, h => by
    have hb := b01_le (t.getD 0 false)
    refine ⟨h, ⟨hb.1, by show b01 (t.getD 0 false) < (l.length : Int) + 2; omega⟩, ?_, .inl rfl⟩
    show _ ≤ lev l ((n : Int) + 1) (b01 (t.getD 0 false))
    rw [lev, if_pos (by omega)]
    simp
  | m + 1, t, l, hm, h => by
    have hv : (n : Int) - ((m + 1 : Nat) : Int) + 1 + 1 = (n : Int) - m + 1 := by omega
    obtain ⟨⟨l1, a⟩, hA⟩ : ∃ A, grow m l (t.take (2 ^ m)) ((n : Int) - m + 1) = A := ⟨_, rfl⟩
    have gA := grow_ok n m (t.take (2 ^ m)) l (by omega) h
    rw [hA] at gA
    obtain ⟨⟨l2, b⟩, hB⟩ : ∃ B, grow m l1 (T2 m t) ((n : Int) - m + 1) = B := ⟨_, rfl⟩
    have gB := grow_ok n m (T2 m t) l1 (by omega) gA.1
    rw [hB] at gB
    obtain ⟨X, hX⟩ := grow_ext m l1 (T2 m t) ((n : Int) - m + 1)
    rw [hB] at hX
    simp only at gA gB hX
    obtain ⟨a1, a2, a3, a4⟩ := gA
    obtain ⟨b1, b2, b3, b4⟩ := gB
    rw [grow_step (A := (l1, a)) (B := (l2, b)) (by rw [hv]; exact hA) (by rw [hv]; exact hB)]
    simp only
    have la : lev l2 ((n : Int) + 1) a = lev l1 ((n : Int) + 1) a := by rw [hX]; exact lev_app X _ _ a2.2
    have hlen : l1.length ≤ l2.length := by rw [hX]; simp
    rcases growJ_cases l2 ((n : Int) - ((m + 1 : Nat) : Int) + 1) a b with ⟨e, e'⟩ | ⟨e, i, hi, e'⟩ | ⟨e, hn, e'⟩
    · rw [e']
      simp only
      refine ⟨b1, ⟨a2.1, by omega⟩, by omega, ?_⟩
      rcases b4 with h4 | h4
      · rcases a4 with h5 | h5
        · left; rw [h4, h5]
        · right; rw [h4]; exact h5
      · right; omega
    · rw [e']
      simp only
      obtain ⟨j, j1, j2, j3, j4⟩ := known_is hi
      have hc := cho_ok (b1 j j1)
      rw [j2] at hc
      simp only at hc
      refine ⟨b1, by omega, ?_, .inl ?_⟩
      · rw [j3, lev, if_neg (by omega), show ((j : Int) + 2 - 2).toNat = j by omega, j2]
        exact Int.le_refl _
      · have hb : l2 = l1 := by
          rcases b4 with h4 | h4
          · exact h4
          · omega
        have ha : l1 = l := by
          rcases a4 with h4 | h4
          · exact h4
          · have := congrArg List.length hb; omega
        rw [hb, ha]
    · rw [e']
      simp only
      have hll : (l2 ++ [((n : Int) - ((m + 1 : Nat) : Int) + 1, a, b)]).length = l2.length + 1 := by simp
      refine ⟨?_, ⟨by omega, by rw [hll]; omega⟩, ?_, .inr (by rw [hll]; omega)⟩
      · intro j hj
        rw [hll] at hj
        by_cases hj2 : j < l2.length
        · exact cho_app _ hj2 (b1 j hj2)
        · obtain rfl : j = l2.length := by omega
          refine cho_mk (getD_new l2 [] _) ⟨by simp only; omega, by simp only; omega⟩ ⟨a2.1, by simp only; omega⟩ ⟨b2.1, by simp only; omega⟩ e ?_ ?_ ?_
          · rw [lev_app _ _ _ (by simp only; omega)]; simp only; omega
          · rw [lev_app _ _ _ (by simp only; omega)]; simp only; omega
          · rw [List.take_append_of_le_length (Nat.le_refl _), List.take_length]; exact hn
      · rw [lev, if_neg (by omega), show ((l2.length : Int) + 2 - 2).toNat = l2.length by omega, getD_new l2 []]
        exact Int.le_refl _

theorem rvis_in {l : List Cho} {i : Int} {s : List Int} (h : i < 2 ∨ i ∈ s) : ∀ f, rvis l f i s = s
  | 0 => rfl
  | f + 1 => by rw [rvis, if_pos h]
theorem grow_rvis (n : Nat) : ∀ (m : Nat) (t : List Bool) (l : List Cho), m ≤ n → GOK n l → ∀ (X : List Cho) (f : Nat), (grow m l t ((n : Int) - m + 1)).2 < (f : Int) →
    rvis ((grow m l t ((n : Int) - m + 1)).1 ++ X) f (grow m l t ((n : Int) - m + 1)).2 (rng ((l.length : Int) + 2)) = rng (((grow m l t ((n : Int) - m + 1)).1.length : Int) + 2)
  | 0, t, l, _, h, X, f, hf => by
    have hb := b01_le (t.getD 0 false)
    exact rvis_in (.inl (by show b01 (t.getD 0 false) < 2; omega)) f
  | m + 1, t, l, hm, h, X, f, hf => by
    have hv : (n : Int) - ((m + 1 : Nat) : Int) + 1 + 1 = (n : Int) - m + 1 := by omega
    obtain ⟨⟨l1, a⟩, hA⟩ : ∃ A, grow m l (t.take (2 ^ m)) ((n : Int) - m + 1) = A := ⟨_, rfl⟩
    have gA := grow_ok n m (t.take (2 ^ m)) l (by omega) h
    have rA := grow_rvis n m (t.take (2 ^ m)) l (by omega) h
    rw [hA] at gA rA
    obtain ⟨⟨l2, b⟩, hB⟩ : ∃ B, grow m l1 (T2 m t) ((n : Int) - m + 1) = B := ⟨_, rfl⟩
    have gB := grow_ok n m (T2 m t) l1 (by omega) gA.1
    have rB := grow_rvis n m (T2 m t) l1 (by omega) gA.1
    rw [hB] at gB rB
    obtain ⟨Y, hY⟩ := grow_ext m l1 (T2 m t) ((n : Int) - m + 1)
    rw [hB] at hY
    obtain ⟨Z, hZ⟩ := grow_ext m l (t.take (2 ^ m)) ((n : Int) - m + 1)
    rw [hA] at hZ
    simp only at gA gB hY hZ rA rB
    obtain ⟨a1, a2, a3, a4⟩ := gA
    obtain ⟨b1, b2, b3, b4⟩ := gB
    have hlen : l1.length ≤ l2.length := by rw [hY]; simp
    have hlen0 : l.length ≤ l1.length := by rw [hZ]; simp
    rw [grow_step (A := (l1, a)) (B := (l2, b)) (by rw [hv]; exact hA) (by rw [hv]; exact hB)] at hf ⊢
    simp only at hf ⊢
    rcases growJ_cases l2 ((n : Int) - ((m + 1 : Nat) : Int) + 1) a b with ⟨e, e'⟩ | ⟨e, i, hi, e'⟩ | ⟨e, hn, e'⟩
    · rw [e'] at hf ⊢
      simp only at hf ⊢
      have := rA (Y ++ X) f hf
      rw [← List.append_assoc, ← hY] at this
      rw [this]
      have hl : l2.length = l1.length := by
        rcases b4 with h4 | h4
        · rw [h4]
        · omega
      rw [hl]
    · rw [e'] at hf ⊢
      simp only at hf ⊢
      obtain ⟨j, j1, j2, j3, j4⟩ := known_is hi
      have hc := cho_ok (b1 j j1)
      rw [j2] at hc
      simp only at hc
      have hb : l2 = l1 := by
        rcases b4 with h4 | h4
        · exact h4
        · omega
      have ha : l1 = l := by
        rcases a4 with h4 | h4
        · exact h4
        · have := congrArg List.length hb; omega
      rw [rvis_in (.inr ((rng_mem _ _).2 (by rw [← ha, ← hb]; omega))) f, hb, ha]
    · rw [e'] at hf ⊢
      simp only at hf ⊢
      have hll : (l2 ++ [((n : Int) - ((m + 1 : Nat) : Int) + 1, a, b)]).length = l2.length + 1 := by simp
      match f, hf with
      | f + 1, hf =>
        have hget : (l2 ++ [((n : Int) - ((m + 1 : Nat) : Int) + 1, a, b)] ++ X).getD ((l2.length : Int) + 2 - 2).toNat (0, 0, 0) = ((n : Int) - ((m + 1 : Nat) : Int) + 1, a, b) := by
          rw [show ((l2.length : Int) + 2 - 2).toNat = l2.length by omega, List.append_assoc]; exact getD_new l2 X _
        rw [rvis, if_neg (by rw [rng_mem]; omega), hget]
        simp only
        have ra := rA (Y ++ ([((n : Int) - ((m + 1 : Nat) : Int) + 1, a, b)] ++ X)) f (by omega)
        have rb := rB ([((n : Int) - ((m + 1 : Nat) : Int) + 1, a, b)] ++ X) f (by omega)
        rw [← List.append_assoc, ← hY, ← List.append_assoc] at ra
        rw [← List.append_assoc] at rb
        rw [ra, rb, hll, ← rng_succ _ (by omega)]
        congr 1

/-! ### Tables -/
abbrev dvl (l : List Cho) (a : List Bool) (i : Int) : Bool := dval l a i.toNat i
def tb (l : List Cho) (m : Nat) (i : Int) (pad : List Bool) : List Bool := (List.range (2 ^ m)).map fun (w : Nat) => dvl l (pad ++ bits m w) i

theorem bits_succ (m : Nat) (w : Int) : bits (m + 1) w = decide (w / 2 ^ m % 2 = 1) :: bits m w := by
  simp only [bits, List.range_succ_eq_map, List.map_cons, List.map_map]
  congr 1
  apply List.map_congr_left
  intro i _
  simp only [Function.comp]
  rw [show m + 1 - 1 - (i + 1) = m - 1 - i by omega]
theorem bits_lo {m w : Nat} (h : w < 2 ^ m) : bits (m + 1) w = false :: bits m w := by
  rw [bits_succ]
  have e : (w : Int) / 2 ^ m = 0 := Int.ediv_eq_zero_of_lt (by omega) (by rw [pow_int]; omega)
  rw [e]
  rfl
theorem bits_hi {m w : Nat} (h : w < 2 ^ m) : bits (m + 1) ((2 ^ m + w : Nat) : Int) = true :: bits m w := by
  have hp : 0 < 2 ^ m := Nat.two_pow_pos m
  rw [bits_succ]
  have e : ((2 ^ m + w : Nat) : Int) / 2 ^ m = 1 := by
    rw [pow_int, ← Int.natCast_ediv, Nat.add_div_left _ hp, Nat.div_eq_of_lt h]; rfl
  rw [e]
  congr 1
  apply List.map_congr_left
  intro i hi
  rw [List.mem_range] at hi
  have e2 : ((2 ^ m + w : Nat) : Int) / 2 ^ (m - 1 - i) % 2 = (w : Int) / 2 ^ (m - 1 - i) % 2 := by
    have hq : 2 ^ m = 2 ^ (m - 1 - i) * (2 * 2 ^ i) := by rw [← Nat.mul_assoc, ← Nat.pow_succ, ← Nat.pow_add]; congr 1; omega
    rw [pow_int, ← Int.natCast_ediv, ← Int.natCast_ediv, hq, Nat.mul_add_div (Nat.two_pow_pos _)]
    omega
  rw [e2]
theorem tb_split (l : List Cho) (m : Nat) (i : Int) (pad : List Bool) : tb l (m + 1) i pad = tb l m i (pad ++ [false]) ++ tb l m i (pad ++ [true]) := by
  have hp : 2 ^ (m + 1) = 2 ^ m + 2 ^ m := by rw [Nat.pow_succ]; omega
  unfold tb
  rw [hp, List.range_add, List.map_append, List.map_map]
  congr 1
  · apply List.map_congr_left
    intro w hw
    rw [List.mem_range] at hw
    rw [bits_lo hw]; simp
  · apply List.map_congr_left
    intro w hw
    rw [List.mem_range] at hw
    simp only [Function.comp]
    rw [bits_hi hw]; simp
theorem tb_node {l : List Cho} (hV : Valid l) {m : Nat} {i v a b : Int} {pad : List Bool} (h2 : 2 ≤ i) (h3 : i < l.length + 2) (hc : l.getD (i - 2).toNat (0, 0, 0) = (v, a, b)) (hp : (pad.length : Int) = v - 1) (x : Bool) :
    tb l m i (pad ++ [x]) = tb l m (if x = true then b else a) (pad ++ [x]) := by
  apply List.map_congr_left
  intro w _
  have hg : (pad ++ [x] ++ bits m (w : Int)).getD (v - 1).toNat false = x := by
    rw [show (v - 1).toNat = pad.length by omega, List.append_assoc, List.getD_eq_getElem?_getD, List.getElem?_append_right (Nat.le_refl _)]; simp
  refine dval_step hV _ i _ h2 h3 ?_
  rw [hc]
  simp only
  rw [hg]
theorem tb_leaf {l : List Cho} {i : Int} {pad : List Bool} (h0 : 0 ≤ i) (h : i < 2) : tb l 0 i pad = [decide (i = 1)] := by
  simp [tb, dval_end _ i h0 h]

/-- What grew tells the table. -/
theorem grow_tb (n : Nat) : ∀ (m : Nat) (t : List Bool) (l : List Cho), t.length = 2 ^ m → m ≤ n → GOK n l → ∀ (X : List Cho) (pad : List Bool), GOK n ((grow m l t ((n : Int) - m + 1)).1 ++ X) → pad.length + m = n →
    tb ((grow m l t ((n : Int) - m + 1)).1 ++ X) m (grow m l t ((n : Int) - m + 1)).2 pad = t
  | 0, t, l, ht, _, h, X, pad, _, _ => by
    have hb := b01_le (t.getD 0 false)
    show tb (l ++ X) 0 (b01 (t.getD 0 false)) pad = t
    rw [tb_leaf hb.1 (by omega)]
    match t, ht with
    | [b], _ => cases b <;> rfl
  | m + 1, t, l, ht, hm, h, X, pad, hG, hpad => by
    have hv : (n : Int) - ((m + 1 : Nat) : Int) + 1 + 1 = (n : Int) - m + 1 := by omega
    have hp : 2 ^ (m + 1) = 2 ^ m + 2 ^ m := by rw [Nat.pow_succ]; omega
    have et : t = t.take (2 ^ m) ++ T2 m t := by
      have e9 : (t.drop (2 ^ m)).take (t.length - 2 ^ m) = t.drop (2 ^ m) := List.take_of_length_le (by rw [List.length_drop]; omega)
      show t = t.take (2 ^ m) ++ (t.drop (2 ^ m)).take (t.length - 2 ^ m)
      rw [e9, List.take_append_drop]
    obtain ⟨⟨l1, a⟩, hA⟩ : ∃ A, grow m l (t.take (2 ^ m)) ((n : Int) - m + 1) = A := ⟨_, rfl⟩
    have gA := grow_ok n m (t.take (2 ^ m)) l (by omega) h
    have rA := grow_tb n m (t.take (2 ^ m)) l (by rw [List.length_take]; omega) (by omega) h
    rw [hA] at gA rA
    obtain ⟨⟨l2, b⟩, hB⟩ : ∃ B, grow m l1 (T2 m t) ((n : Int) - m + 1) = B := ⟨_, rfl⟩
    have gB := grow_ok n m (T2 m t) l1 (by omega) gA.1
    have rB := grow_tb n m (T2 m t) l1 (by unfold T2; rw [List.length_take, List.length_drop]; omega) (by omega) gA.1
    rw [hB] at gB rB
    obtain ⟨Y, hY⟩ := grow_ext m l1 (T2 m t) ((n : Int) - m + 1)
    rw [hB] at hY
    simp only at gA gB hY rA rB
    have hlen : l1.length ≤ l2.length := by rw [hY]; simp
    rw [grow_step (A := (l1, a)) (B := (l2, b)) (by rw [hv]; exact hA) (by rw [hv]; exact hB)] at hG ⊢
    simp only at hG ⊢
    have node : ∀ (X' : List Cho) (i : Int), GOK n (l2 ++ X') → 2 ≤ i → i < (l2 ++ X').length + 2 → (l2 ++ X').getD (i - 2).toNat (0, 0, 0) = ((n : Int) - ((m + 1 : Nat) : Int) + 1, a, b) → tb (l2 ++ X') (m + 1) i pad = t := by
      intro X' i hG' h2 h3 hc
      rw [tb_split, tb_node (valid_of hG') h2 h3 hc (by omega), tb_node (valid_of hG') h2 h3 hc (by omega)]
      simp only [Bool.false_eq_true, if_false, if_true]
      have ra := rA (Y ++ X') (pad ++ [false]) (by rw [← List.append_assoc, ← hY]; exact hG') (by simp; omega)
      rw [← List.append_assoc, ← hY] at ra
      rw [ra, rB X' (pad ++ [true]) hG' (by simp; omega), ← et]
    rcases growJ_cases l2 ((n : Int) - ((m + 1 : Nat) : Int) + 1) a b with ⟨e, e'⟩ | ⟨e, i, hi, e'⟩ | ⟨e, hn, e'⟩
    · rw [e'] at hG ⊢
      simp only at hG ⊢
      have ra := rA (Y ++ X) (pad ++ [false]) (by rw [← List.append_assoc, ← hY]; exact hG) (by simp; omega)
      rw [← List.append_assoc, ← hY] at ra
      have rb := rB X (pad ++ [true]) hG (by simp; omega)
      rw [tb_split, ra, e, rb, ← et]
    · rw [e'] at hG ⊢
      simp only at hG ⊢
      obtain ⟨j, j1, j2, j3, j4⟩ := known_is hi
      refine node X i hG (by omega) (by rw [List.length_append]; omega) ?_
      rw [j3, show ((j : Int) + 2 - 2).toNat = j by omega, getD_app X j1, j2]
    · rw [e'] at hG ⊢
      simp only at hG ⊢
      rw [List.append_assoc] at hG ⊢
      refine node _ _ hG (by omega) (by simp; omega) ?_
      rw [show ((l2.length : Int) + 2 - 2).toNat = l2.length by omega]
      exact getD_new l2 X _

theorem tab_tb (n : Nat) (l : List Cho) (r : Int) : tabOf n l r = tb l n r [] := by
  simp only [tabOf, dtab, tb, Int.toNat_natCast, dvalue, List.nil_append]

/-- What is built is as it must be. -/
theorem built_ok {n : Nat} (t : List Bool) (h8 : n ≤ 8) : diaCheck n (grow n [] t 1).1 (grow n [] t 1).2 = (0, 0) := by
  have e1 : (n : Int) - n + 1 = 1 := by omega
  have hg := grow_ok n n t [] (Nat.le_refl _) (fun j hj => absurd hj (Nat.not_lt_zero _))
  have hr := grow_rvis n n t [] (Nat.le_refl _) (fun j hj => absurd hj (Nat.not_lt_zero _)) [] ((grow n [] t 1).2.toNat + 1)
  have hlen := grow_len n [] t 1
  have h2 : 2 ^ n ≤ 256 := Nat.pow_le_pow_right (n := 2) (by decide) h8
  rw [e1] at hg hr
  rw [List.append_nil] at hr
  simp at hlen
  generalize grow n [] t 1 = G at hg hr hlen
  obtain ⟨g1, g2, _, _⟩ := hg
  have hr := hr (by omega)
  have e0 : rng ((([] : List Cho).length : Int) + 2) = [] := rfl
  rw [e0] at hr
  have hf : fin G.1 G.2 = true := (fin_iff (valid_of g1) g2).2 (by
    rw [hr]
    intro j hj
    exact ⟨by rw [rng_len]; omega, rng_get _ _ (by omega)⟩)
  have hp : ∀ d i : Nat, i + d = G.1.length → diaFrom n G.1 i = (0, 0) := by
    intro d
    induction d with
    | zero => intro i hi; rw [diaFrom, dif_neg (by omega)]
    | succ d ih => intro i hi; rw [diaFrom, dif_pos (by omega), if_neg (fun h => h (g1 i (by omega)))]; exact ih (i + 1) (by omega)
  have h0 := hp G.1.length 0 (by omega)
  rw [dia_end (by omega) (by omega) (Nat.le_refl _) (by rw [h0, hp 0 G.1.length (by omega)]), if_neg (by omega), if_pos hf]

/-- What is built tells the table. -/
theorem built_tab {n : Nat} {t : List Bool} (ht : t.length = 2 ^ n) : tabOf n (grow n [] t 1).1 (grow n [] t 1).2 = t := by
  have e1 : (n : Int) - n + 1 = 1 := by omega
  have hg := grow_ok n n t [] (Nat.le_refl _) (fun j hj => absurd hj (Nat.not_lt_zero _))
  have h := grow_tb n n t [] ht (Nat.le_refl _) (fun j hj => absurd hj (Nat.not_lt_zero _)) [] [] (by rw [List.append_nil]; exact hg.1) (by simp)
  rw [e1, List.append_nil] at h
  rw [tab_tb]
  exact h
end Sp
end Go.Um

/- Plain functions: lists that are filled anew; Not, Both, Some. No program in sight. No condition. -/

namespace Go.Um
namespace Sp

def fillTo {α : Type} (N : Nat) (f g : Nat → α) (i : Nat) : List α := (List.range N).map fun k => if k < i then g k else f k
theorem fill_len {α : Type} (N : Nat) (f g : Nat → α) (i : Nat) : (fillTo N f g i).length = N := by simp [fillTo]
theorem fill_get {α : Type} {N : Nat} (f g : Nat → α) (i : Nat) {j : Nat} (z : α) (h : j < N) : (fillTo N f g i).getD j z = if j < i then g j else f j := by
  rw [List.getD_eq_getElem?_getD, List.getElem?_eq_getElem (by rw [fill_len]; exact h)]; simp [fillTo]
theorem fill_set {α : Type} {N : Nat} (f g : Nat → α) {i : Nat} (h : i < N) : (fillTo N f g i).set i (g i) = fillTo N f g (i + 1) := by
  apply List.ext_getElem (by simp [fill_len])
  intro j h1 h2
  rw [fill_len] at h2
  rw [List.getElem_set]
  simp only [fillTo, List.getElem_map, List.getElem_range]
  by_cases e : i = j
  · subst e; simp
  · simp only [e, if_false]
    by_cases h3 : j < i
    · rw [if_pos h3, if_pos (by omega)]
    · rw [if_neg h3, if_neg (by omega)]
theorem fill_step {α : Type} {N : Nat} {f g : Nat → α} {i : Nat} {z : α} {h : α → α} (hi : i < N) (hg : g i = h (f i)) : (fillTo N f g i).set i (h ((fillTo N f g i).getD i z)) = fillTo N f g (i + 1) := by
  rw [fill_get f g i z hi, if_neg (Nat.lt_irrefl _), ← hg, fill_set f g hi]
theorem fill_zero {α : Type} (N : Nat) (f g : Nat → α) : fillTo N f g 0 = (List.range N).map f := by simp [fillTo]
theorem fill_end {α : Type} {N i : Nat} (f g : Nat → α) (h : N ≤ i) : fillTo N f g i = (List.range N).map g := by
  apply List.map_congr_left
  intro k hk
  rw [List.mem_range] at hk
  rw [if_pos (by omega)]
theorem btab_map (p : List Bool → Bool) (n : Nat) : btab p n = (List.range (2 ^ n)).map fun (k : Nat) => b01 (p (bits n k)) := by simp [btab, dtab]

def diaNot (n : Int) (l : List Cho) (r : Int) : DF := if (diaCheck n l r).1 ≠ 0 then ([], 0, diaCheck n l r) else diaBuilt n.toNat (dtab (fun a => !dvalue l r a) n.toNat)
def comb (op : Int) (x y : Bool) : Bool := decide (op / 2 ^ (2 * b01 x + b01 y).toNat % 2 = 1)
def bothWrong (n : Int) (l : List Cho) (r : Int) (l' : List Cho) (r' : Int) : Int × Int := if (diaCheck n l r).1 = 0 then diaCheck n l' r' else diaCheck n l r
def diaBoth (n op : Int) (l : List Cho) (r : Int) (l' : List Cho) (r' : Int) : DF :=
  if (diaCheck n l r).1 ≠ 0 then ([], 0, diaCheck n l r) else if (diaCheck n l' r').1 ≠ 0 then ([], 0, diaCheck n l' r') else if op < 0 ∨ 15 < op then ([], 0, 3, -1) else diaBuilt n.toNat (dtab (fun a => comb op (dvalue l r a) (dvalue l' r' a)) n.toNat)
def some2 (p : List Bool → Bool) (v : Int) (a : List Bool) : Bool := p (a.set (v - 1).toNat false) || p (a.set (v - 1).toNat true)
def diaSome (n : Int) (l : List Cho) (r v : Int) : DF :=
  if (diaCheck n l r).1 ≠ 0 then ([], 0, diaCheck n l r) else if v < 1 ∨ n < v then ([], 0, 3, -1) else diaBuilt n.toNat (dtab (some2 (dvalue l r) v) n.toNat)

end Sp
end Go.Um
namespace Go.Um
namespace Sp
end Sp
end Go.Um
namespace Go.Um
namespace Sp
theorem fill_to {α : Type} {N : Nat} {f g : Nat → α} {i : Nat} {x : α} (hi : i < N) (hg : g i = x) : (fillTo N f g i).set i x = fillTo N f g (i + 1) := by
  rw [← hg, fill_set f g hi]
theorem comb_wrap (op : Int) (x y : Bool) : b01 (comb op x y) = IntKind.u8.wrap (op / 2 ^ (2 * b01 x + b01 y).toNat % 2) := by
  unfold comb
  rcases Int.emod_two_eq (op / 2 ^ (2 * b01 x + b01 y).toNat) with h | h
  · rw [h]; decide
  · rw [h]; decide
theorem comb_sum {x y : Bool} : IntKind.u8.wrap (IntKind.u8.wrap (2 * b01 x) + b01 y) = 2 * b01 x + b01 y := by cases x <;> cases y <;> decide
theorem bit_test (w k : Nat) : decide ((w : Int) / 2 ^ k % 2 = 1) = w.testBit k := by
  rw [Nat.testBit_eq_decide_div_mod_eq, pow_int, ← Int.natCast_ediv]
  apply decide_eq_decide.2
  omega
theorem bits_get {n w j : Nat} (h : j < n) : (bits n w).getD j false = w.testBit (n - 1 - j) := by
  rw [List.getD_eq_getElem?_getD, List.getElem?_eq_getElem (by rw [bits_length]; exact h), ← bit_test]
  simp [bits]
theorem bits_xor {n i v : Nat} (h1 : 1 ≤ v) (h2 : v ≤ n) : bits n ((i ^^^ 2 ^ (n - v) : Nat) : Int) = (bits n i).set (v - 1) (!(bits n i).getD (v - 1) false) := by
  refine eq_of_getD (z := false) (i := n) (by rw [List.length_set, bits_length, bits_length]) (by rw [bits_length]; exact Nat.le_refl _) (fun j hj => ?_)
  rw [bits_get hj, Nat.testBit_xor, Nat.testBit_two_pow]
  have hs : ((bits n i).set (v - 1) (!(bits n i).getD (v - 1) false)).getD j false = if v - 1 = j then !(bits n i).getD (v - 1) false else (bits n i).getD j false := by
    rw [List.getD_eq_getElem?_getD, List.getElem?_set]
    by_cases e : v - 1 = j
    · rw [if_pos e, if_pos (by rw [bits_length]; omega), if_pos e]; rfl
    · rw [if_neg e, if_neg e, List.getD_eq_getElem?_getD]
  rw [hs]
  by_cases e : v - 1 = j
  · rw [if_pos e, bits_get (by omega), decide_eq_true (by omega : n - v = n - 1 - j), show n - 1 - (v - 1) = n - 1 - j by omega]
    simp
  · rw [if_neg e, bits_get hj, decide_eq_false (by omega : ¬ n - v = n - 1 - j)]
    simp
theorem set_self {a : List Bool} {k : Nat} (h : k < a.length) : a.set k (a.getD k false) = a := by
  apply List.ext_getElem (by simp)
  intro j h1 h2
  rw [List.getElem_set]
  split
  · rename_i e; subst e; rw [List.getD_eq_getElem?_getD, List.getElem?_eq_getElem h]; rfl
  · rfl
theorem some_xor (p : List Bool → Bool) {n i : Nat} {v : Int} (h : 1 ≤ v ∧ v ≤ n) : b01 (some2 p v (bits n i)) = (if (p (bits n i) || p (bits n ((i ^^^ 2 ^ (n - v.toNat) : Nat) : Int))) = true then 1 else 0) := by
  have e : (v - 1).toNat = v.toNat - 1 := by omega
  have hl : v.toNat - 1 < (bits n i).length := by rw [bits_length]; omega
  have h1 := bits_xor (n := n) (i := i) (v := v.toNat) (by omega) (by omega)
  have h2 := set_self hl
  unfold some2 b01
  rw [h1, e]
  cases hb : (bits n i).getD (v.toNat - 1) false with
  | true => rw [hb] at h2; rw [h2]; simp [Bool.or_comm]
  | false => rw [hb] at h2; rw [h2]; simp
theorem xor_lt {n i v : Nat} (hi : i < 2 ^ n) (h1 : 1 ≤ v) (h2 : v ≤ n) : i ^^^ 2 ^ (n - v) < 2 ^ n := Nat.xor_lt_two_pow hi (Nat.pow_lt_pow_right (by decide) (by omega))
end Sp
end Go.Um
namespace Go.Um
namespace Sp
end Sp
end Go.Um
