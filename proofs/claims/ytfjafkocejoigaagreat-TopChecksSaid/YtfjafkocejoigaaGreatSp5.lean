/- Plain laws: CardMust. No program in sight. No condition. -/
import Derived.Test.YtfjafkocejoigaaGreatPA
namespace Go.Um
namespace Sp

def Rot (l : List Int) (w : Int) (i : Nat) (S : List Int) : Prop := S.Nodup ∧ ∀ y ∈ S, ∃ j : Nat, j < i ∧ y = l.getD (((j : Int) + w) % (l.length : Int)).toNat 0

end Sp
end Go.Um
