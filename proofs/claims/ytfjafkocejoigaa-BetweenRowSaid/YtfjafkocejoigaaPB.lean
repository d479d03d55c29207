/- Plain laws: what unit propagation on a trail keeps and tells, and clauses that follow by it. No program in sight. No condition. -/
import Derived.Test.YtfjafkocejoigaaPA
namespace Go.Um
namespace Sp
def Cl (c : List Int) : Prop := c.Nodup ∧ ∀ x ∈ c, x ≠ 0 ∧ -x ∉ c
def Nz (ls : List (List Int)) : Prop := ∀ c ∈ ls, ∀ x ∈ c, x ≠ 0
def Shut (ls : List (List Int)) (T : List Int) : Prop := ∀ c ∈ ls, (∃ x ∈ c, -x ∉ T) ∧ ∀ l ∈ c, (∀ y ∈ c, y ≠ l → -y ∈ T) → l ∈ T
def Rup (ls : List (List Int)) (c : List Int) : Prop := ∀ T, Shut ls T → (∀ x ∈ c, -x ∈ T) → False

theorem idxV_neg {α : Type} {p : α → Bool} {l : List α} (h : idx p l < 0) : ∀ y ∈ l, p y = false := by
  unfold idx at h
  cases hf : l.findIdx? p with
  | some i => rw [hf] at h; simp at h; omega
  | none => rw [List.findIdx?_eq_none_iff] at hf; exact hf
def place (L : List Int) (x : Int) : Int := idx (fun y => decide (y = x)) L

theorem place_at {L : List Int} {x : Int} (h : x ∈ L) : 0 ≤ place L x ∧ (place L x).toNat < L.length ∧ L.getD (place L x).toNat 0 = x := by
  have h0 : ¬ idx (fun y => decide (y = x)) L < 0 := fun h1 => by have := idxV_neg h1 x h; simp at this
  obtain ⟨h1, h2⟩ := idx_mem 0 h0
  refine ⟨by unfold place; omega, h1, of_decide_eq_true h2⟩

theorem place_lt {L : List Int} {x : Int} : x ∈ L ↔ 0 ≤ place L x := by
  refine ⟨fun h => (place_at h).1, fun h => ?_⟩
  obtain ⟨h1, h2⟩ := idx_mem (p := fun y => decide (y = x)) (l := L) 0 (by unfold place at h; omega)
  have h3 := getD_mem L _ 0 h1
  simp only [decide_eq_true_eq] at h2
  rw [h2] at h3
  exact h3
def Dist (L : List Int) : Prop := ∀ i, i < L.length → L.getD i 0 ∉ L.take i ∧ -L.getD i 0 ∉ L.take i

end Sp
end Go.Um
