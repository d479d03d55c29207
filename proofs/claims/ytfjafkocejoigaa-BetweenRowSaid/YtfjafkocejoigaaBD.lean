/- A slice of a row from an element on: made, measured, indexed, cleared; 'x[:len(x):len(x)]'. No condition. -/
import Derived.Test.YtfjafkocejoigaaBB
import Derived.Test.YtfjafkocejoigaaBC
namespace Go.Um
open Go Go.RowKit

section
variable {P : Program} {n : Nat} {ops : Array Oper} {s : St} {o : Oper}

end

end Go.Um

/- A row from an element on that goes on as a row of its own; a row cut short; a clipped slice that grows. No condition. -/


namespace Go.Um
open Go Go.RowKit

section
variable {P : Program} {n : Nat} {ops : Array Oper} {s : St} {o : Oper}

end
end Go.Um

/- A slice of slices of the call's own, all of whose rows are written: a variable of many cells, and a family of rows. No condition. -/


namespace Go.Um
open Go Go.RowKit

def chF (f : Nat → AV) : Nat → Nat → AV
  | _, 0 => .cnil
  | j, m + 1 => .ccons (f j) (chF f (j + 1) m)
def fam (n : Nat) (F : Nat → AV) (s : St) : St := fun k => bif Nat.ble 40000 k then (bif Nat.blt (k - 40000) n then F (k - 40000) else .any) else s k
def grid (l : List (Nat × AV)) (n : Nat) (F : Nat → AV) (u : Nat) (B : AV) : St := fam n F (ofL ((30001, .box u B) :: l))

def closedG (l : List (Nat × AV)) : Bool := l.all fun p => Nat.blt p.1 40000 && (ment p.2).all fun o => Nat.beq o 30001 || l.any fun q => Nat.beq q.1 o && !Nat.beq o 30001

section
variable {P : Program} {n : Nat} {ops : Array Oper} {s : St} {o : Oper}

def freeG (l : List (Nat × AV)) : Bool := l.all fun p => Nat.blt p.1 40000 && !Nat.beq p.1 30001 && !Nat.beq p.1 30002
def lopG (P : Program) {α : Type} (I : α → Prop) (S : α → St) (μ : α → Nat) (x : α) (Q : Exit → St → Prop) : Exit → St → Prop
  | .normal, s => ∃ y, I y ∧ μ y < μ x ∧ Le P s (S y)
  | e, s => Q e s
end

section
variable {P : Program} {n : Nm} {s : St} {Q : Exit → St → Prop} {l : List Code}
end
section
variable {P : Program} {s : St}

end
end Go.Um

/- A row cut short; a clipped slice that grows; data behind pointers; keys of objects to be. No condition. -/


namespace Go.Um
open Go Go.RowKit

section
variable {P : Program} {n : Nat} {ops : Array Oper} {s : St} {o : Oper}

end
end Go.Um

/- Contracts of functions whose results lie in new memory alone; functions that captured data, handed on; pointers within data. No condition. -/

namespace Go.Um
open Go Go.RowKit

section
variable {P : Program} {n : Nat} {ops : Array Oper} {s : St} {o : Oper}
def SpecF (P : Program) (f : FuncId) (args : List AV) (r : D) : Prop :=
  ∀ (w : World) (ok : Nat → Prop) (vs : List Value), (∀ b, ok b → b < w.heap.size) → ArgsR P ok w args vs →
    Calls P f vs.toArray w (fun e w' => ∃ v, e = .returned v ∧ RV P r (fun b => w.heap.size ≤ b ∧ b < w'.heap.size) w' v ∧ Belw w.heap.size w w')

def ResF (P : Program) (fn : Func) (s : St) (r : D) : Prop :=
  ∀ (X : Cx) (a : Act) (w : World) (β : Nat → Option Nat) (ν : Nat → Value), (∀ b, ¬ X.bor b) → RelB P X s a w β ν → ∃ v, (results fn a.tmps).run P w = .ok v w ∧ RV P r (fun b => X.w0.heap.size ≤ b ∧ b < w.heap.size) w v
def EndsF (P : Program) (fn : Func) (r : D) (e : Exit) (s : St) : Prop := (e = .ret ∨ e = .normal) ∧ ResF P fn s r

def ResOneF (P : Program) (s : St) (r : ResultVar) (d : D) : Prop :=
  ∀ (X : Cx) (a : Act) (w : World) (β : Nat → Option Nat) (ν : Nat → Value), (∀ b, ¬ X.bor b) → RelB P X s a w β ν → ∃ v, (runRes a.tmps r).run P w = .ok v w ∧ RV P d (fun b => X.w0.heap.size ≤ b ∧ b < w.heap.size) w v

end
end Go.Um
