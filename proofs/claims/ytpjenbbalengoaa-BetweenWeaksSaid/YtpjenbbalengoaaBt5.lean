/- Plain law: interpolants as diagrams. No program in sight. No condition. -/
import Derived.Test.YtpjenbbalengoaaBt4
namespace Go.Um
namespace Sp

structure TakOk (k : Nat) (a b : List (List Int)) (X : DF) (p : Prd) : Prop where
  code : X.2.2 = (0, 0)
  ok : (diaCheck k X.1 X.2.1).1 = 0
  val : ∀ i : Nat, i < 2 ^ k → dvalue X.1 X.2.1 (bits k i) = p (bits k i)
  com : ∀ c ∈ X.1, occ a c.1 = true ∧ occ b c.1 = true
  len : X.1.length ≤ 4000
  rng : ∀ c ∈ X.1, 1 ≤ c.1 ∧ c.1 ≤ k

theorem grow_all {k : Nat} {p : Prd} (h8 : k ≤ 8) : (diaCheck k (grow k [] (dtab p k) 1).1 (grow k [] (dtab p k) 1).2).1 = 0 ∧ (∀ i : Nat, i < 2 ^ k → dvalue (grow k [] (dtab p k) 1).1 (grow k [] (dtab p k) 1).2 (bits k i) = p (bits k i)) ∧ (grow k [] (dtab p k) 1).1.length ≤ 4000 ∧ ∀ c ∈ (grow k [] (dtab p k) 1).1, 1 ≤ c.1 ∧ c.1 ≤ k := by
  have hok := built_ok (dtab p k) h8
  have h0 : (diaCheck k (grow k [] (dtab p k) 1).1 (grow k [] (dtab p k) 1).2).1 = 0 := by rw [hok]
  have hd := dia_ok h0
  refine ⟨h0, fun i hi => ?_, hd.2.1, fun c hc => ?_⟩
  · have ht := built_tab (n := k) (t := dtab p k) (dtab_len p k)
    have h1 : (tabOf k (grow k [] (dtab p k) 1).1 (grow k [] (dtab p k) 1).2).getD i false = (dtab p k).getD i false := by rw [ht]
    unfold tabOf at h1
    rw [Int.toNat_natCast, dtab_at _ _ _ hi, dtab_at _ _ _ hi] at h1
    exact h1
  · obtain ⟨i, hi, e⟩ := List.getElem_of_mem hc
    have hv := (cho_ok (hd.2.2.1 i hi)).1
    rw [getD_at _ hi, e] at hv
    exact hv
theorem tak_all {k : Nat} {a b : List (List Int)} {l : List Rs} (hp : (prfW k a k b l).1 = 0) (h : Prf k a b l) (h8 : k ≤ 8) (e : Bool) : TakOk k a b (takO e k a k b l) (lastP e a b l) := by
  have h1 : takO e k a k b l = ((grow k [] (dtab (lastP e a b l) k) 1).1, (grow k [] (dtab (lastP e a b l) k) 1).2, 0, 0) := by
    rw [(tak_good hp).1, Int.toNat_natCast, built_few h8]
  obtain ⟨g1, g2, g3, g4⟩ := grow_all (p := lastP e a b l) h8
  rw [h1]
  exact ⟨rfl, g1, g2, dep_vars (stand_dep h e) h8, g3, g4⟩
theorem tak_code {n m : Int} {a b : List (List Int)} {l : List Rs} (h8 : n ≤ 8) (h : (takO false n a m b l).2.2.1 ≠ 0 ∨ (takO true n a m b l).2.2.1 ≠ 0) : (prfW n a m b l).1 ≠ 0 := by
  intro hp
  obtain ⟨k, rfl, rfl, hpf⟩ := prf_of hp
  have h1 := fun e => (tak_all hp hpf (by omega) e).code
  rcases h with h | h
  · exact h (by rw [h1 false])
  · exact h (by rw [h1 true])
theorem tak_fine {n m : Int} {a b : List (List Int)} {l : List Rs} (h : (takO false n a m b l).2.2.1 = 0) : (prfW n a m b l).1 = 0 := by
  refine Classical.byContradiction fun hp => ?_
  rw [tak_bad hp] at h
  exact hp h
end Sp
end Go.Um
