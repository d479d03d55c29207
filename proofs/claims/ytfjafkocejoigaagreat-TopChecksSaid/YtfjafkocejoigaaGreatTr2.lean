/- Plain law: steps that are left out. No program in sight. No condition. -/
import Derived.Test.YtfjafkocejoigaaGreatTr1
namespace Go.Um
namespace Sp
abbrev Cq := List Int × List Int
def czS (l : List (List Int)) (L W : List Int) (k : Nat) (q : Cq) : Cq :=
  if W.getD k 0 < 0 ∨ av (L.getD k 0) ∉ q.2 then q else (q.1 ++ [W.getD k 0], q.2 ++ (l.getD (W.getD k 0).toNat []).map av)
def czk (l : List (List Int)) (L W : List Int) : Nat → Cq → Cq
  | 0, q => q
  | k + 1, q => czk l L W k (czS l L W k q)
def causes (l : List (List Int)) (i : Nat) : List Int :=
  if (trOn (l.take i) (l.getD i [])).2.2 < 0 then [] else
    (czk l (trOn (l.take i) (l.getD i [])).1 (trOn (l.take i) (l.getD i [])).2.1 (trOn (l.take i) (l.getD i [])).1.length ([(trOn (l.take i) (l.getD i [])).2.2], (l.getD (trOn (l.take i) (l.getD i [])).2.2.toNat []).map av)).1
def setAll (ks : List Int) (f : List Bool) : List Bool := ks.foldl (fun f k => f.set k.toNat true) f
def rqS (l : List (List Int)) (i : Nat) (f : List Bool) : List Bool := if f.getD i false = true then setAll (causes l i) f else f
def rqk (l : List (List Int)) (m : Nat) : Nat → List Bool → List Bool
  | 0, f => f
  | d + 1, f => rqk l m d (rqS l (m + d) f)
section
variable {l : List (List Int)} {m : Nat} (hc : ∀ i, m ≤ i → i < l.length → ∀ k ∈ causes l i, 0 ≤ k ∧ k < i)
include hc
end
def kept (l : List (List Int)) (f : List Bool) (m i : Nat) : List (List Int) := (((List.range i).filter fun j => decide (m ≤ j) && f.getD j false).map fun j => litSort (l.getD j []))
def firstE (l : List (List Int)) : Int := idx (fun x => decide (x = [])) l
def flags (g l : List (List Int)) : List Bool := rqk l g.length ((firstE l).toNat + 1 - g.length) ((List.replicate l.length false).set (firstE l).toNat true)
def trimOf (g st : List (List Int)) : List (List Int) := kept (g ++ st) (flags g (g ++ st)) g.length (g ++ st).length
end Sp
end Go.Um
