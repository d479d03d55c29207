/- Plain laws: CardMust. No program in sight. No condition. -/
import Derived.Test.YtpjenbbalengoaaPA
namespace Go.Um
namespace Sp

theorem len_sub {α : Type} [DecidableEq α] : ∀ {a b : List α}, a.Nodup → (∀ x ∈ a, x ∈ b) → a.length ≤ b.length
  | [], _, _, _ => Nat.zero_le _
  | x :: a, b, hn, h => by
    have hx := h x (List.mem_cons_self ..)
    rw [List.nodup_cons] at hn
    have := len_sub (a := a) (b := b.erase x) hn.2 (fun y hy => by
      have hne : y ≠ x := by rintro rfl; exact hn.1 hy
      exact (List.mem_erase_of_ne hne).2 (h y (List.mem_cons_of_mem _ hy)))
    rw [List.length_erase_of_mem hx] at this
    have hpos : 0 < b.length := List.length_pos_of_mem hx
    simp only [List.length_cons]
    omega

def Rot (l : List Int) (w : Int) (i : Nat) (S : List Int) : Prop := S.Nodup ∧ ∀ y ∈ S, ∃ j : Nat, j < i ∧ y = l.getD (((j : Int) + w) % (l.length : Int)).toNat 0

end Sp
end Go.Um
