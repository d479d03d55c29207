/- Plain functions: what the Go functions compute. No condition. -/
namespace Go.Um.Sp

def parityWrongFrom (n : Int) (zs : List Int) (k : Nat) : Int :=
  if h : k < zs.length then
    if zs.getD k 0 < 1 ∨ n < zs.getD k 0 then 3
    else if 0 < k ∧ zs.getD k 0 ≤ zs.getD (k - 1) 0 then 5
    else parityWrongFrom n zs (k + 1)
  else 0
termination_by zs.length - k
def parityWrong (n : Int) (zs : List Int) : Int := parityWrongFrom n zs 0

def parCheckFrom (n : Int) (l : List (List Int × Bool)) (i : Nat) : Int × Int :=
  if h : i < l.length then
    if parityWrong n (l.getD i ([], false)).1 ≠ 0 then (parityWrong n (l.getD i ([], false)).1, i)
    else parCheckFrom n l (i + 1)
  else (0, 0)
termination_by l.length - i
def parCheck (n : Int) (l : List (List Int × Bool)) : Int × Int :=
  if n < 0 ∨ 120 < n then (3, 0) else if 400 < l.length then (2, 0) else parCheckFrom n l 0

end Go.Um.Sp
