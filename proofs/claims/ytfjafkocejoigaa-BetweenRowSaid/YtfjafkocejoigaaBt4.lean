/- Plain laws: what the laws of interpolants ask. No program in sight. No condition. -/
import Derived.Test.YtfjafkocejoigaaPD
namespace Go.Um
namespace Sp

section
variable {n m : Int} {a b : List (List Int)}
end
def RInv (v : Int) (L out : List Int) (i : Nat) : Prop :=
  i ≤ L.length ∧ resGo v [] L = resGo v out (L.drop i) ∧ out.length ≤ i ∧ (∀ x ∈ out, -9223372036854775808 < x ∧ x ≤ 9223372036854775807) ∧ ∀ x ∈ out, -x ∉ out
section
variable {v x : Int} {L out : List Int} {i : Nat}
end
def fstT (e : Bool) (b : List (List Int)) (x : List Bool) (c : List Int) (j : Nat) : Bool := !e && (c.take j).any fun y => occ b (av y) && lit x y
section
variable {e : Bool} {a b : List (List Int)} {P : List Prd} {r : Rs} {x : List Bool}
end

section
variable {n m : Int} {a b : List (List Int)} {l : List Rs} {L : Nat}
end
def exA : List (List Int) := [[1], [-1, 2]]
def exB : List (List Int) := [[-2]]
def exL : List Rs := [(0, 1, 1), (3, 2, 2)]
theorem ex_bet : betW 2 exA 2 exB = (0, 0) := by
  have h1 : check 2 exA = (0, 0) := by simp [exA, check, checkFrom, wrong, wrongFrom, dup, Int.max_def]
  have h2 : check 2 exB = (0, 0) := by simp [exB, check, checkFrom, wrong, wrongFrom, dup, Int.max_def]
  rw [betW, h1, h2]
  decide
theorem ex_one : resOne (exA ++ exB) (0, 1, 1) 2 = ([2], 0) := by
  have h : resGo 1 [] ([1] ++ [-1, 2]) = Option.some [2] := by decide
  have h2 : resolve [1] [-1, 2] 1 = Option.some [2] := by rw [resolve, h]; show Option.some (litSort [2]) = _; rw [litSort_one]
  show res2 [1] [-1, 2] 1 = _
  rw [res2, h2, if_neg (by decide)]
  rfl
theorem ex_two : resOne (exA ++ exB ++ [[2]]) (3, 2, 2) 2 = ([], 0) := by
  have h : resGo 2 [] ([2] ++ [-2]) = Option.some [] := by decide
  have h2 : resolve [2] [-2] 2 = Option.some [] := by rw [resolve, h]; show Option.some (litSort []) = _; rw [litSort, List.mergeSort_nil]
  show res2 [2] [-2] 2 = _
  rw [res2, h2, if_neg (by decide)]
  rfl
theorem ex_res : resR 2 (exA ++ exB) exL = ([[2], []], 0, 0) := by
  have h : resF 2 (exA ++ exB) 0 exL = (0, 0) := by
    show resF 2 (exA ++ exB) 0 [(0, 1, 1), (3, 2, 2)] = _
    rw [resF, ex_one, if_neg (by decide), resF, ex_two, if_neg (by decide)]
    rfl
  have h2 : resTo 2 (exA ++ exB) exL exL.length = exA ++ exB ++ [[2]] ++ [[]] := by
    show ([(0, 1, 1), (3, 2, 2)] : List Rs).foldl _ _ = _
    simp only [List.foldl_cons, List.foldl_nil]
    rw [ex_one]
    show exA ++ exB ++ [[2]] ++ [(resOne (exA ++ exB ++ [[2]]) (3, 2, 2) 2).1] = _
    rw [ex_two]
  rw [resR, if_neg (by decide), h, if_neg (by decide), h2]
  rfl
theorem ex_prf : prfW 2 exA 2 exB exL = (0, 0) := by
  rw [prfW, ex_bet, ex_res, if_neg (by decide), if_neg (by decide), if_neg (by decide)]
theorem ex_tab (e : Bool) : dtab (lastP e exA exB exL) 2 = [false, true, false, true] := by
  cases e <;> decide
theorem ex_grow : grow 2 [] [false, true, false, true] 1 = ([(2, 0, 1)], 2) := by decide
theorem ex_tak (e : Bool) : takO e 2 exA 2 exB exL = ([(2, 0, 1)], 2, 0, 0) := by
  rw [(tak_good (by rw [ex_prf])).1]
  show diaBuilt 2 (dtab (lastP e exA exB exL) 2) = _
  rw [ex_tab, built_few (by decide), ex_grow]

end Sp
end Go.Um
