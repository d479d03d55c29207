/- Plain laws: literals that must be. No program in sight. No condition. -/
import Derived.Test.YtfjafkocejoigaaGreatSq6
namespace Go.Um
namespace Sp

def prF (ls : List (List Int)) (x : Int) : Bool := decide (0 ≤ (on ls ([x].map fun y => -y) (List.replicate ([x].map fun y => -y).length (-1))).2.2)
def prIn (ls : List (List Int)) (v : Int) (j : Nat) : List Int := ([v, -v].take j).filter (prF ls)
def prTo (ls : List (List Int)) : Nat → List Int
  | 0 => []
  | i + 1 => prTo ls i ++ prIn ls ((i : Int) + 1) 2
def prOf (n : Int) (ls : List (List Int)) : List Int := if (check n ls).1 = 0 then prTo ls n.toNat else []
end Sp
end Go.Um
