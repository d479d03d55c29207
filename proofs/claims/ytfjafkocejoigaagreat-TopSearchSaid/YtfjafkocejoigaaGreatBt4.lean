/- Plain laws: what the laws of interpolants ask. No program in sight. No condition. -/
import Derived.Test.YtfjafkocejoigaaGreatPD
namespace Go.Um
namespace Sp

section
variable {n m : Int} {a b : List (List Int)}
end
def RInv (v : Int) (L out : List Int) (i : Nat) : Prop :=
  i ≤ L.length ∧ resGo v [] L = resGo v out (L.drop i) ∧ out.length ≤ i ∧ (∀ x ∈ out, -9223372036854775808 < x ∧ x ≤ 9223372036854775807) ∧ ∀ x ∈ out, -x ∉ out
section
variable {v x : Int} {L out : List Int} {i : Nat}
end
def fstT (e : Bool) (b : List (List Int)) (x : List Bool) (c : List Int) (j : Nat) : Bool := !e && (c.take j).any fun y => occ b (av y) && lit x y
section
variable {e : Bool} {a b : List (List Int)} {P : List Prd} {r : Rs} {x : List Bool}
end

section
variable {n m : Int} {a b : List (List Int)} {l : List Rs} {L : Nat}
end
def exA : List (List Int) := [[1], [-1, 2]]
def exB : List (List Int) := [[-2]]
def exL : List Rs := [(0, 1, 1), (3, 2, 2)]
end Sp
end Go.Um
