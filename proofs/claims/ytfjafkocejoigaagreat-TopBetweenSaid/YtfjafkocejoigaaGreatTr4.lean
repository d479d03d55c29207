/- Plain laws: what stands between two sets of clauses, by a search's own proof. No program in sight. No condition. -/
import Derived.Test.YtfjafkocejoigaaGreatTr3
import Derived.Test.YtfjafkocejoigaaGreatTp3
import Derived.Test.YtfjafkocejoigaaGreatBt5
import Derived.Test.YtfjafkocejoigaaGreatPC
namespace Go.Um
namespace Sp

theorem tak_any {k : Nat} {a b : List (List Int)} {X : DF} {p : Prd} (h : TakOk k a b X p) {x : List Bool} (hx : x.length = k) : dvalue X.1 X.2.1 x = p x := by
  obtain ⟨w, h1, h2⟩ := word_of x
  rw [hx] at h1 h2
  have := h.val w h1
  rwa [h2] at this
theorem tak_val {k : Nat} {a b : List (List Int)} {X : DF} {p : Prd} (h : TakOk k a b X p) {x : List Bool} (hx : x.length = k) : diaValue k X.1 X.2.1 x = (p x, 0, 0) := by
  rw [diaValue, if_neg (fun h2 => h2 h.ok), if_neg (by rw [hx]; exact fun h => h rfl), tak_any h hx]
theorem bet_mk {n : Int} {a b : List (List Int)} (ha : (check n a).1 = 0) (hb : (check n b).1 = 0) (hn : n ≤ 16) (hl : a.length + b.length ≤ 400) : (betW n a n b).1 = 0 := by
  rw [betW, if_neg (fun h => h ha), if_neg (fun h => h hb), if_neg (fun h => h rfl), if_neg (by omega)]
def stV (ls : List (List Int)) (v : Int) : Bool := ls.any fun l => l.any fun y => decide (av y = v)
theorem stV_occ {ls : List (List Int)} {v : Int} (hv : 1 ≤ v) (h : occ ls v = true) : stV ls v = true := by
  obtain ⟨l, hl, h1⟩ := List.any_eq_true.1 h
  refine List.any_eq_true.2 ⟨l, hl, List.any_eq_true.2 ?_⟩
  simp only [Bool.or_eq_true, decide_eq_true_eq] at h1
  rcases h1 with h1 | h1
  · exact ⟨v, h1, by rw [decide_eq_true_eq]; unfold av; omega⟩
  · exact ⟨-v, h1, by rw [decide_eq_true_eq]; unfold av; omega⟩
def hangB (a b : List (List Int)) (l : List Cho) : Bool := l.all fun c => stV a c.1 && stV b c.1
theorem hang_tak {k : Nat} {a b : List (List Int)} {X : DF} {p : Prd} (h : TakOk k a b X p) : hangB a b X.1 = true := by
  refine List.all_eq_true.2 fun c hc => ?_
  have h1 := h.com c hc
  have h2 := h.rng c hc
  rw [Bool.and_eq_true]
  exact ⟨stV_occ h2.1 h1.1, stV_occ h2.1 h1.2⟩
theorem cnfOf_len {l : List Int} {m : Int} {n : Nat} : (cnfOf l m n).length ≤ n := by
  unfold cnfOf
  rw [List.length_map]
  exact List.length_take_le _ _
theorem refuted {m : Nat} {ls : List (List Int)} {A : Ans} (hck : (check m ls).1 = 0) (hm : m ≤ 12) (h : Two m ls A) (h2 : A.1 ≠ 1) : OutN m ls [] A ∧ Taken m ls A.2.2.1 ∧ [] ∈ ls ++ A.2.2.1 ∧ TrOk m ls (trOf ls A.2.2.1) := by
  have hN : OutN m ls [] A := h.or_.resolve_left fun h3 => h2 h3.st
  have ht := outN_taken hck hm hN h.us.2 (Int.le_refl _)
  exact ⟨hN, ht, hN.empty, tr_of (check_okc hck) (fun c hc => wrong_iff.1 (ht.wr c hc).1) ht.ch hN.empty⟩
theorem TrOk.many {n : Nat} {g : List (List Int)} {X : List Rs × Int × Int} (h : TrOk n g X) (h2 : X.2.1 ≠ 0) : X.2.1 = 2 := by
  rcases h.code with h3 | h3
  · rw [h3] at h2; exact absurd rfl h2
  · rw [h3]
end Sp
end Go.Um
