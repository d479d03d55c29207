/- Plain laws: some assignment, and yes. No program in sight. No condition. -/
import Derived.Test.YtpjenbbalengoaaSq5
namespace Go.Um
namespace Sp

def someV (n : Nat) (l : List (List Int)) : Int := idx (fun (w : Nat) => all (bits n w) l) (List.range (2 ^ n))
def ones (l : List Int) : List (List Int) := l.map fun x => [x]
theorem ones_step {l : List Int} {i : Nat} (h : i < l.length) : ones (l.take (i + 1)) = ones (l.take i) ++ [(l.drop i).take (i + 1 - i)] := by
  unfold ones
  have e : l.getD i 0 = l[i] := by simp [List.getD, h]
  rw [take_getD l i 0 h, List.map_append, show i + 1 - i = 0 + 1 by omega, List.drop_eq_getElem_cons h, List.take_succ_cons, e]
  rfl
end Sp
end Go.Um
