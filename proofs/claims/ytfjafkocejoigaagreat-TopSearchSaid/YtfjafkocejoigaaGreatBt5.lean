/- Plain law: interpolants as diagrams. No program in sight. No condition. -/
import Derived.Test.YtfjafkocejoigaaGreatBt4
namespace Go.Um
namespace Sp

structure TakOk (k : Nat) (a b : List (List Int)) (X : DF) (p : Prd) : Prop where
  code : X.2.2 = (0, 0)
  ok : (diaCheck k X.1 X.2.1).1 = 0
  val : ∀ i : Nat, i < 2 ^ k → dvalue X.1 X.2.1 (bits k i) = p (bits k i)
  com : ∀ c ∈ X.1, occ a c.1 = true ∧ occ b c.1 = true
  len : X.1.length ≤ 4000
  rng : ∀ c ∈ X.1, 1 ≤ c.1 ∧ c.1 ≤ k

end Sp
end Go.Um
