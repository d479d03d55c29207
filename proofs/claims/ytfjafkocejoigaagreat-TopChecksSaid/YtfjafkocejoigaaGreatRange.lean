/- A loop over a function: the iterator's contract, and the rule for the loop. No condition. -/
import Derived.Test.YtfjafkocejoigaaGreatBB
namespace Go.Um
open Go Go.RowKit
def Iter (P : Program) (f : FuncId) (cs : List AV) (N : Nat) (yes : Nat → Bool) (d : Nat → D) : Prop :=
  ∀ (l : Nat) (W : World) (ok : Nat → Prop) (vs : List Value) (J Jx : Nat → World → Prop),
    (∀ b, ok b → b < W.heap.size) → ArgsR P ok W cs vs →
    (∀ k W1, J k W1 → W.heap.size ≤ W1.heap.size ∧ ∀ b, ok b → cellsB W.heap[b]? = true → W1.heap[b]? = W.heap[b]?) →
    (∀ k W1 W2, J k W1 → Belw W1.heap.size W1 W2 → J k W2) → (∀ k W1 W2, Jx k W1 → Belw W1.heap.size W1 W2 → Jx k W2) →
    (∀ k W1, k < N → yes k = false → J k W1 → J (k + 1) W1) →
    (∀ k W1 W2 v, k < N → yes k = true → J k W1 → Belw W1.heap.size W1 W2 → RV P (d k) (fun b => (ok b ∨ W1.heap.size ≤ b) ∧ b < W2.heap.size) W2 v →
      YieldAt (wd none) 0 P l #[v] W2 (fun e W' => ((e = .returned (.bool true) ∧ J (k + 1) W') ∨ (e = .returned (.bool false) ∧ Jx k W')) ∧ W2.heap.size ≤ W'.heap.size ∧ ∀ b, ok b ∨ (W1.heap.size ≤ b ∧ b < W2.heap.size) → cellsB W2.heap[b]? = true → W'.heap[b]? = W2.heap[b]?)) →
    J 0 W →
    CallsIn (wd none) 0 P f (#[.func (.yield l) #[] #[]] ++ vs.toArray) W (fun e W' => (∃ v, e = .returned v) ∧ (J N W' ∨ ∃ k, k < N ∧ yes k = true ∧ Jx k W'))

theorem val_one {P : Program} {ok : Nat → Prop} {w : World} {v : Value} : (∀ k i, RV P (.int k i) ok w v → v = .int k i) ∧ ∀ b, RV P (.bool b) ok w v → v = .bool b := by
  constructor
  · rintro k i ⟨h1, h2⟩
    simp only [R] at h2
    cases v <;> simp_all [Value.cells, vAgg, D.isAgg]
  · rintro b ⟨h1, h2⟩
    simp only [R] at h2
    cases v <;> simp_all [Value.cells, vAgg, D.isAgg]
def rndQ (I1 Ix : Prop) (S1 : List (Nat × AV)) (Sx : Option (Nat × List (Nat × AV))) : Exit → St → Prop
  | .normal, s => I1 ∧ allEq s S1
  | .exit id, s => match Sx with
    | some (id', S) => id' = id ∧ Ix ∧ allEq s S
    | none => False
  | _, _ => False

def asgQ (P : Program) (n : Nm) (body : Code) (Q : Exit → St → Prop) : Exit → St → Prop
  | .normal, s => AWs P n [body] s Q
  | _, _ => False

def nodupB : List Nat → Bool
  | [] => true
  | k :: l => !l.contains k && nodupB l
def goodO (S0 S1 : List (Nat × AV)) : Bool :=
  nodupB (keysL S0) && S0.all (fun p => anc p.2) && closedL S0 && (keysL S0).all (fun k => Nat.blt 9999 k && !Nat.beq k 29999) && closedL S1 && (keysL S1 == keysL S0) && S0.all (fun p => !isArr p.2 || !live (ofL S1 p.1) || isArr (ofL S1 p.1))

def goodSl (n p : Nat) (sl : List (Nat × AV)) (ks : List Nat) : Bool :=
  (keysL sl).all (fun k => Nat.blt k 10000) && !(keysL sl).contains p && Nat.blt p n && Nat.blt p 10000 && sl.all (fun q => (ment q.2).all (fun o => ks.contains o))
def SpecA (P : Program) (f : FuncId) (args : List AV) (y : AV) : Prop :=
  ∀ (w : World) (ok : Nat → Prop) (vs : List Value), (∀ b, ok b → b < w.heap.size) → ArgsR P ok w args vs → Calls P f vs.toArray w (fun e w' => ∃ v, e = .returned v ∧ ARel P (fun b => ok b ∨ (w.heap.size ≤ b ∧ b < w'.heap.size)) w' y v ∧ Belw w.heap.size w w')

def ResA (P : Program) (fn : Func) (s : St) (y : AV) : Prop :=
  ∀ (X : Cx) (a : Act) (w : World) (β : Nat → Option Nat) (ν : Nat → Value), (∀ b, ¬ X.bor b) → RelB P X s a w β ν →
    ∃ v, (results fn a.tmps).run P w = .ok v w ∧ ARel P (fun b => (X.ok0 b ∨ X.w0.heap.size ≤ b) ∧ b < w.heap.size) w y v

def EndsA (P : Program) (fn : Func) (y : AV) (e : Exit) (s : St) : Prop := (e = .ret ∨ e = .normal) ∧ ResA P fn s y

end Go.Um
