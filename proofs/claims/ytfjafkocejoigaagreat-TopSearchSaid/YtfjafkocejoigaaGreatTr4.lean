/- Plain laws: what stands between two sets of clauses, by a search's own proof. No program in sight. No condition. -/
import Derived.Test.YtfjafkocejoigaaGreatTr3
import Derived.Test.YtfjafkocejoigaaGreatTp3
import Derived.Test.YtfjafkocejoigaaGreatBt5
import Derived.Test.YtfjafkocejoigaaGreatPC
namespace Go.Um
namespace Sp

def stV (ls : List (List Int)) (v : Int) : Bool := ls.any fun l => l.any fun y => decide (av y = v)
def hangB (a b : List (List Int)) (l : List Cho) : Bool := l.all fun c => stV a c.1 && stV b c.1
theorem cnfOf_len {l : List Int} {m : Int} {n : Nat} : (cnfOf l m n).length ≤ n := by
  unfold cnfOf
  rw [List.length_map]
  exact List.length_take_le _ _
theorem refuted {m : Nat} {ls : List (List Int)} {A : Ans} (hck : (check m ls).1 = 0) (hm : m ≤ 12) (h : Two m ls A) (h2 : A.1 ≠ 1) : OutN m ls [] A ∧ Taken m ls A.2.2.1 ∧ [] ∈ ls ++ A.2.2.1 ∧ TrOk m ls (trOf ls A.2.2.1) := by
  have hN : OutN m ls [] A := h.or_.resolve_left fun h3 => h2 h3.st
  have ht := outN_taken hck hm hN h.us.2 (Int.le_refl _)
  exact ⟨hN, ht, hN.empty, tr_of (check_okc hck) (fun c hc => wrong_iff.1 (ht.wr c hc).1) ht.ch hN.empty⟩
theorem trok_all {n : Nat} {g : List (List Int)} {X : List Rs × Int × Int} (h : TrOk n g X) (hck : (check n g).1 = 0) : (resO n g X.1).2 = (0, 0) ∧ (resO n g X.1).1.length = X.1.length ∧ (0 < X.1.length → (resO n g X.1).1.getD (((resO n g X.1).1.length : Int) - 1).toNat [] = []) := by
  rw [resO_eq hck, h.resO]
  have hl : ((resTo n g X.1 X.1.length).drop g.length).length = X.1.length := by
    rw [List.length_drop, resTo_len _ (Nat.le_refl _)]
    omega
  refine ⟨rfl, hl, fun h0 => ?_⟩
  show ((resTo n g X.1 X.1.length).drop g.length).getD ((((resTo n g X.1 X.1.length).drop g.length).length : Int) - 1).toNat [] = []
  rw [hl, List.getD_eq_getElem?_getD, List.getElem?_drop, ← List.getD_eq_getElem?_getD, show g.length + ((X.1.length : Int) - 1).toNat = g.length + X.1.length - 1 by omega]
  exact h.fin h0
theorem TrOk.zero {n : Nat} {g : List (List Int)} {X : List Rs × Int × Int} (h : TrOk n g X) (h2 : X.2.1 = 0) : X.2 = (0, 0) := by
  rcases h.code with h3 | h3
  · exact h3
  · rw [h3] at h2
    exact absurd h2 (by decide)
theorem TrOk.many {n : Nat} {g : List (List Int)} {X : List Rs × Int × Int} (h : TrOk n g X) (h2 : X.2.1 ≠ 0) : X.2.1 = 2 := by
  rcases h.code with h3 | h3
  · rw [h3] at h2; exact absurd rfl h2
  · rw [h3]
end Sp
end Go.Um
