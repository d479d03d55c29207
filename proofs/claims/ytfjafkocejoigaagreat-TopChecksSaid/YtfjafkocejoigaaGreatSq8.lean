/- Plain laws: steps that are taken. No program in sight. No condition. -/
import Derived.Test.YtfjafkocejoigaaGreatSq7
import Derived.Test.YtfjafkocejoigaaGreatStp
namespace Go.Um
namespace Sp
structure Taken (n : Int) (ls st : List (List Int)) : Prop where
  ck : (check n ls).1 = 0
  ll : st.length ≤ 2900
  wr : ∀ c ∈ st, (wrong n c).1 = 0 ∧ c.length ≤ 24
  ch : Chain ls st
end Sp
end Go.Um
