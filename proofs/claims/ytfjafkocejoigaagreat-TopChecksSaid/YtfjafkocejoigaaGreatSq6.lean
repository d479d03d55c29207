/- Plain laws: some assignment, and yes. No program in sight. No condition. -/
import Derived.Test.YtfjafkocejoigaaGreatSq5
namespace Go.Um
namespace Sp

def someV (n : Nat) (l : List (List Int)) : Int := idx (fun (w : Nat) => all (bits n w) l) (List.range (2 ^ n))
def ones (l : List Int) : List (List Int) := l.map fun x => [x]
end Sp
end Go.Um
