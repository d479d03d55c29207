/- Plain functions: decision diagrams. No program in sight. No condition. -/
import Derived.Test.YtfjafkocejoigaaGreatSp5
import Derived.Test.YtfjafkocejoigaaGreatBC
import Derived.Test.YtfjafkocejoigaaGreatPA
namespace Go.Um
namespace Sp

abbrev Cho := Int × Int × Int
def lev (l : List Cho) (top i : Int) : Int := if i < 2 then top else (l.getD (i - 2).toNat (0, 0, 0)).1
def choWrong (n : Int) (l : List Cho) (i : Nat) : Int :=
  if (l.getD i (0, 0, 0)).1 < 1 ∨ n < (l.getD i (0, 0, 0)).1 ∨ ¬ (0 ≤ (l.getD i (0, 0, 0)).2.1 ∧ (l.getD i (0, 0, 0)).2.1 < (i : Int) + 2) ∨ ¬ (0 ≤ (l.getD i (0, 0, 0)).2.2 ∧ (l.getD i (0, 0, 0)).2.2 < (i : Int) + 2) then 3
  else if (l.getD i (0, 0, 0)).2.1 = (l.getD i (0, 0, 0)).2.2 ∨ lev l (n + 1) (l.getD i (0, 0, 0)).2.1 ≤ (l.getD i (0, 0, 0)).1 ∨ lev l (n + 1) (l.getD i (0, 0, 0)).2.2 ≤ (l.getD i (0, 0, 0)).1 then 5
  else if l.getD i (0, 0, 0) ∈ l.take i then 7 else 0
def diaFrom (n : Int) (l : List Cho) (i : Nat) : Int × Int :=
  if h : i < l.length then
    if choWrong n l i ≠ 0 then (choWrong n l i, i) else diaFrom n l (i + 1)
  else (0, 0)
termination_by l.length - i
def Valid (l : List Cho) : Prop := ∀ j, j < l.length → 0 ≤ (l.getD j (0, 0, 0)).2.1 ∧ (l.getD j (0, 0, 0)).2.1 ≤ j + 1 ∧ 0 ≤ (l.getD j (0, 0, 0)).2.2 ∧ (l.getD j (0, 0, 0)).2.2 ≤ j + 1
def vis (l : List Cho) : Nat → Int → List Bool × Int → Bool × List Bool × Int
  | 0, _, s => (true, s)
  | f + 1, i, s =>
    if i < 2 ∨ s.1.getD i.toNat false = true then (true, s)
    else if (vis l f (l.getD (i - 2).toNat (0, 0, 0)).2.1 s).1 = false then (false, (vis l f (l.getD (i - 2).toNat (0, 0, 0)).2.1 s).2)
    else if (vis l f (l.getD (i - 2).toNat (0, 0, 0)).2.2 (vis l f (l.getD (i - 2).toNat (0, 0, 0)).2.1 s).2).1 = false then (false, (vis l f (l.getD (i - 2).toNat (0, 0, 0)).2.2 (vis l f (l.getD (i - 2).toNat (0, 0, 0)).2.1 s).2).2)
    else if i ≠ (vis l f (l.getD (i - 2).toNat (0, 0, 0)).2.2 (vis l f (l.getD (i - 2).toNat (0, 0, 0)).2.1 s).2).2.2 then (false, (vis l f (l.getD (i - 2).toNat (0, 0, 0)).2.2 (vis l f (l.getD (i - 2).toNat (0, 0, 0)).2.1 s).2).2)
    else (true, (vis l f (l.getD (i - 2).toNat (0, 0, 0)).2.2 (vis l f (l.getD (i - 2).toNat (0, 0, 0)).2.1 s).2).2.1.set i.toNat true, (vis l f (l.getD (i - 2).toNat (0, 0, 0)).2.2 (vis l f (l.getD (i - 2).toNat (0, 0, 0)).2.1 s).2).2.2 + 1)

def VisOk (l : List Cho) (s : List Bool × Int) : Prop := s.1.length = l.length + 2 ∧ 0 ≤ s.2 ∧ s.2 ≤ l.length + 2

def fin (l : List Cho) (r : Int) : Bool := (vis l (r.toNat + 1) r (List.replicate (l.length + 2) false, 2)).1 && decide ((vis l (r.toNat + 1) r (List.replicate (l.length + 2) false, 2)).2.2 = l.length + 2)

def diaCheck (n : Int) (l : List Cho) (r : Int) : Int × Int :=
  if n < 0 ∨ 16 < n then (3, 0) else if 4000 < l.length then (2, 0)
  else if (diaFrom n l 0).1 ≠ 0 then diaFrom n l 0
  else if r < 0 ∨ (l.length : Int) + 2 ≤ r then (3, -1)
  else if fin l r = true then (0, 0) else (5, -1)

end Sp
end Go.Um
namespace Go.Um
namespace Sp
def rvis (l : List Cho) : Nat → Int → List Int → List Int
  | 0, _, s => s
  | f + 1, k, s => if k < 2 ∨ k ∈ s then s else rvis l f (l.getD (k - 2).toNat (0, 0, 0)).2.2 (rvis l f (l.getD (k - 2).toNat (0, 0, 0)).2.1 s) ++ [k]
def Inn (l : List Cho) (s : List Int) : Prop := s.Nodup ∧ ∀ x ∈ s, 2 ≤ x ∧ x < l.length + 2
def rng (nx : Int) : List Int := (List.range (nx - 2).toNat).map fun (j : Nat) => (j : Int) + 2
def Off (l : List Cho) (s : List Int) : Prop := ∃ j, j < l.length ∧ j < s.length ∧ s.getD j 0 ≠ (j : Int) + 2
def Upto (l : List Cho) (s : List Bool × Int) : Prop := VisOk l s ∧ 2 ≤ s.2 ∧ ∀ i : Nat, i < l.length + 2 → 2 ≤ i → (s.1.getD i false = true ↔ (i : Int) < s.2)
def okFrom (l : List Cho) (s : List Int) : Prop := ∀ j, j < l.length → j < s.length ∧ s.getD j 0 = (j : Int) + 2

end Sp
end Go.Um

/- Plain functions: values and tables of decision diagrams. No program in sight. No condition. -/



namespace Go.Um
namespace Sp

def dval (l : List Cho) (a : List Bool) : Nat → Int → Bool
  | 0, i => decide (i = 1)
  | f + 1, i => if i < 2 then decide (i = 1) else dval l a f (if a.getD ((l.getD (i - 2).toNat (0, 0, 0)).1 - 1).toNat false = true then (l.getD (i - 2).toNat (0, 0, 0)).2.2 else (l.getD (i - 2).toNat (0, 0, 0)).2.1)
def dvalue (l : List Cho) (r : Int) (a : List Bool) : Bool := dval l a r.toNat r
def dtab (p : List Bool → Bool) (n : Nat) : List Bool := (List.range (2 ^ n)).map fun (w : Nat) => p (bits n w)
def b01 (b : Bool) : Int := if b then 1 else 0
def btab (p : List Bool → Bool) (n : Nat) : List Int := (dtab p n).map b01
def cnt (t : List Bool) : Nat := (t.filter id).length
def trsTo (t : List Bool) (i : Nat) : List Int := ((List.range i).filter fun w => t.getD w false).map fun (w : Nat) => (w : Int)
def trs (t : List Bool) : List Int := trsTo t t.length
def tabOf (n : Int) (l : List Cho) (r : Int) : List Bool := dtab (dvalue l r) n.toNat
def diaValue (n : Int) (l : List Cho) (r : Int) (a : List Bool) : Bool × Int × Int :=
  if (diaCheck n l r).1 ≠ 0 then (false, diaCheck n l r) else if (a.length : Int) ≠ n then (false, (9, -1)) else (dvalue l r a, (0, 0))
def diaCount (n : Int) (l : List Cho) (r : Int) : Int × Int × Int :=
  if (diaCheck n l r).1 ≠ 0 then (0, diaCheck n l r) else ((cnt (tabOf n l r) : Int), (0, 0))
def diaPick (n : Int) (l : List Cho) (r k : Int) : List Bool × Int × Int :=
  if (diaCheck n l r).1 ≠ 0 then ([], diaCheck n l r) else if 0 ≤ k ∧ k < (cnt (tabOf n l r) : Int) then (bits n.toNat ((trs (tabOf n l r)).getD k.toNat 0), (0, 0)) else ([], (3, -1))

end Sp
end Go.Um

/- Plain functions: diagrams out of tables. No program in sight. No condition. -/

namespace Go.Um
namespace Sp

def knownOf (L : List Cho) : List (Cho × Int) := L.zipIdx.map fun p => (p.1, (p.2 : Int) + 2)
abbrev Seen := List (ByteArray × Int)
def nodeF : Nat → List Int → Int → List Cho × Seen → Int × List Cho × Seen
  | 0, t, _, σ => (t.getD 0 0, σ)
  | m + 1, t, v, σ =>
    if (getL σ.2 (strOfNums t)).isSome = true then ((getL σ.2 (strOfNums t)).getD 0, σ)
    else if (nodeF m (t.take (2 ^ m)) (v + 1) σ).1 = (nodeF m ((t.drop (2 ^ m)).take (t.length - 2 ^ m)) (v + 1) (nodeF m (t.take (2 ^ m)) (v + 1) σ).2).1 then
      ((nodeF m (t.take (2 ^ m)) (v + 1) σ).1, (nodeF m ((t.drop (2 ^ m)).take (t.length - 2 ^ m)) (v + 1) (nodeF m (t.take (2 ^ m)) (v + 1) σ).2).2.1, putL (nodeF m ((t.drop (2 ^ m)).take (t.length - 2 ^ m)) (v + 1) (nodeF m (t.take (2 ^ m)) (v + 1) σ).2).2.2 (strOfNums t) (nodeF m (t.take (2 ^ m)) (v + 1) σ).1)
    else if (getL (knownOf (nodeF m ((t.drop (2 ^ m)).take (t.length - 2 ^ m)) (v + 1) (nodeF m (t.take (2 ^ m)) (v + 1) σ).2).2.1) (v, (nodeF m (t.take (2 ^ m)) (v + 1) σ).1, (nodeF m ((t.drop (2 ^ m)).take (t.length - 2 ^ m)) (v + 1) (nodeF m (t.take (2 ^ m)) (v + 1) σ).2).1)).isSome = true then
      ((getL (knownOf (nodeF m ((t.drop (2 ^ m)).take (t.length - 2 ^ m)) (v + 1) (nodeF m (t.take (2 ^ m)) (v + 1) σ).2).2.1) (v, (nodeF m (t.take (2 ^ m)) (v + 1) σ).1, (nodeF m ((t.drop (2 ^ m)).take (t.length - 2 ^ m)) (v + 1) (nodeF m (t.take (2 ^ m)) (v + 1) σ).2).1)).getD 0, (nodeF m ((t.drop (2 ^ m)).take (t.length - 2 ^ m)) (v + 1) (nodeF m (t.take (2 ^ m)) (v + 1) σ).2).2.1,
        putL (nodeF m ((t.drop (2 ^ m)).take (t.length - 2 ^ m)) (v + 1) (nodeF m (t.take (2 ^ m)) (v + 1) σ).2).2.2 (strOfNums t) ((getL (knownOf (nodeF m ((t.drop (2 ^ m)).take (t.length - 2 ^ m)) (v + 1) (nodeF m (t.take (2 ^ m)) (v + 1) σ).2).2.1) (v, (nodeF m (t.take (2 ^ m)) (v + 1) σ).1, (nodeF m ((t.drop (2 ^ m)).take (t.length - 2 ^ m)) (v + 1) (nodeF m (t.take (2 ^ m)) (v + 1) σ).2).1)).getD 0))
    else
      ((((nodeF m ((t.drop (2 ^ m)).take (t.length - 2 ^ m)) (v + 1) (nodeF m (t.take (2 ^ m)) (v + 1) σ).2).2.1 ++ [(v, (nodeF m (t.take (2 ^ m)) (v + 1) σ).1, (nodeF m ((t.drop (2 ^ m)).take (t.length - 2 ^ m)) (v + 1) (nodeF m (t.take (2 ^ m)) (v + 1) σ).2).1)]).length : Int) + 1,
        (nodeF m ((t.drop (2 ^ m)).take (t.length - 2 ^ m)) (v + 1) (nodeF m (t.take (2 ^ m)) (v + 1) σ).2).2.1 ++ [(v, (nodeF m (t.take (2 ^ m)) (v + 1) σ).1, (nodeF m ((t.drop (2 ^ m)).take (t.length - 2 ^ m)) (v + 1) (nodeF m (t.take (2 ^ m)) (v + 1) σ).2).1)],
        putL (nodeF m ((t.drop (2 ^ m)).take (t.length - 2 ^ m)) (v + 1) (nodeF m (t.take (2 ^ m)) (v + 1) σ).2).2.2 (strOfNums t) ((((nodeF m ((t.drop (2 ^ m)).take (t.length - 2 ^ m)) (v + 1) (nodeF m (t.take (2 ^ m)) (v + 1) σ).2).2.1 ++ [(v, (nodeF m (t.take (2 ^ m)) (v + 1) σ).1, (nodeF m ((t.drop (2 ^ m)).take (t.length - 2 ^ m)) (v + 1) (nodeF m (t.take (2 ^ m)) (v + 1) σ).2).1)]).length : Int) + 1))
def growJ (l : List Cho) (v a b : Int) : List Cho × Int :=
  if a = b then (l, a) else if (getL (knownOf l) (v, a, b)).isSome = true then (l, (getL (knownOf l) (v, a, b)).getD 0) else (l ++ [(v, a, b)], (l.length : Int) + 2)
def grow : Nat → List Cho → List Bool → Int → List Cho × Int
  | 0, l, t, _ => (l, b01 (t.getD 0 false))
  | m + 1, l, t, v => growJ (grow m (grow m l (t.take (2 ^ m)) (v + 1)).1 ((t.drop (2 ^ m)).take (t.length - 2 ^ m)) (v + 1)).1 v (grow m l (t.take (2 ^ m)) (v + 1)).2 (grow m (grow m l (t.take (2 ^ m)) (v + 1)).1 ((t.drop (2 ^ m)).take (t.length - 2 ^ m)) (v + 1)).2
def SeenOk (n : Nat) (L : List Cho) (sn : Seen) : Prop := ∀ (m : Nat) (t : List Bool) (i : Int), m + 1 ≤ n → t.length = 2 ^ (m + 1) → getL sn (strOfNums (t.map b01)) = Option.some i → grow (m + 1) L t ((n : Int) - m) = (L, i)

end Sp
end Go.Um

/- Plain functions: what is built, and what the laws of diagrams ask. No program in sight. No condition. -/

namespace Go.Um
namespace Sp

abbrev DF := List Cho × Int × Int × Int
def diaBuilt (n : Nat) (t : List Bool) : DF := if 4000 < (grow n [] t 1).1.length then ([], 0, 10, 0) else ((grow n [] t 1).1, (grow n [] t 1).2, 0, 0)
def tryWrong (n : Int) (ls : List (List Int)) : Int × Int := if (check n ls).1 = 0 ∧ 16 < n then (2, -1) else check n ls
def diaOf (n : Int) (ls : List (List Int)) : DF := if (check n ls).1 ≠ 0 then ([], 0, check n ls) else if 16 < n then ([], 0, 2, -1) else diaBuilt n.toNat (dtab (fun a => all a ls) n.toNat)

end Sp
end Go.Um

/- Plain law: of a table there is one diagram; it is as it must be, and tells the table. No program in sight. No condition. -/

namespace Go.Um
namespace Sp

def GOK (n : Int) (l : List Cho) : Prop := ∀ j, j < l.length → choWrong n l j = 0
abbrev T2 (m : Nat) (t : List Bool) : List Bool := (t.drop (2 ^ m)).take (t.length - 2 ^ m)
abbrev dvl (l : List Cho) (a : List Bool) (i : Int) : Bool := dval l a i.toNat i
def tb (l : List Cho) (m : Nat) (i : Int) (pad : List Bool) : List Bool := (List.range (2 ^ m)).map fun (w : Nat) => dvl l (pad ++ bits m w) i

end Sp
end Go.Um

/- Plain functions: lists that are filled anew; Not, Both, Some. No program in sight. No condition. -/

namespace Go.Um
namespace Sp

def fillTo {α : Type} (N : Nat) (f g : Nat → α) (i : Nat) : List α := (List.range N).map fun k => if k < i then g k else f k
def diaNot (n : Int) (l : List Cho) (r : Int) : DF := if (diaCheck n l r).1 ≠ 0 then ([], 0, diaCheck n l r) else diaBuilt n.toNat (dtab (fun a => !dvalue l r a) n.toNat)
def comb (op : Int) (x y : Bool) : Bool := decide (op / 2 ^ (2 * b01 x + b01 y).toNat % 2 = 1)
def bothWrong (n : Int) (l : List Cho) (r : Int) (l' : List Cho) (r' : Int) : Int × Int := if (diaCheck n l r).1 = 0 then diaCheck n l' r' else diaCheck n l r
def diaBoth (n op : Int) (l : List Cho) (r : Int) (l' : List Cho) (r' : Int) : DF :=
  if (diaCheck n l r).1 ≠ 0 then ([], 0, diaCheck n l r) else if (diaCheck n l' r').1 ≠ 0 then ([], 0, diaCheck n l' r') else if op < 0 ∨ 15 < op then ([], 0, 3, -1) else diaBuilt n.toNat (dtab (fun a => comb op (dvalue l r a) (dvalue l' r' a)) n.toNat)
def some2 (p : List Bool → Bool) (v : Int) (a : List Bool) : Bool := p (a.set (v - 1).toNat false) || p (a.set (v - 1).toNat true)
def diaSome (n : Int) (l : List Cho) (r v : Int) : DF :=
  if (diaCheck n l r).1 ≠ 0 then ([], 0, diaCheck n l r) else if v < 1 ∨ n < v then ([], 0, 3, -1) else diaBuilt n.toNat (dtab (some2 (dvalue l r) v) n.toNat)

end Sp
end Go.Um
namespace Go.Um
namespace Sp
end Sp
end Go.Um
namespace Go.Um
namespace Sp
end Sp
end Go.Um
namespace Go.Um
namespace Sp
end Sp
end Go.Um
