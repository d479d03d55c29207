/- Plain laws: a variable that goes, step by step. No program in sight. No condition. -/
import Derived.Test.YtfjafkocejoigaaGreatTp3
namespace Go.Um
namespace Sp

section
variable {l : List (List Int)} {v : Int} {i : Nat}
end
theorem okc_fine {n : Nat} {c : List Int} (hn : n ≤ 1000) (h : Okc n c) : c.length ≤ 1000000 ∧ ∀ x ∈ c, -9223372036854775808 < x ∧ x ≤ 9223372036854775807 := by
  have := okc_len h
  refine ⟨by omega, fun x hx => ?_⟩
  have := h.1 x hx
  omega
def stgTo (ls : List (List Int)) (vs : List Int) (i : Nat) : List (List (List Int)) := (List.range (i + 1)).map (stg ls vs)
def stgL (ls : List (List Int)) (vs : List Int) : List (List (List Int)) := if (stgF ls vs vs.length 0).1 = 0 then stgTo ls vs vs.length else []
section
variable {ls : List (List Int)} {vs : List Int} {i j f : Nat}
end
end Sp
end Go.Um
