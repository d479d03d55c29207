/- The abstract layer of the walks of this seat: pure data 'D', abstract values 'AV', and what they say of a frame and a world. No condition. -/
import Derived.WalkKit
import Derived.Orders
namespace Go.Um
open Go Go.RowKit

/-- Pure data. 'list s f z xs': a slice whose elements (s cells each) read as 'f x', x in xs (z: any element, for an index beyond). 'agg c': a struct, its cells the chain c; 'tup c': several results; 'fn f g': a function that makes 'g x' of the arguments 'f x' (a chain); 'sl b d': a slice that reads as d, and is nil just if b; 'any': a value of one cell; 'ptr d': points at cells that read as d; 'clp d': a slice that reads as d, with no room behind; 'ifc T d': an interface's value of type T that reads as d. -/
inductive D : Type 1
  | int (k : IntKind) (n : Int)
  | bool (b : Bool)
  | str (s : ByteArray)
  | nil
  | cons (a b : D)
  | agg (c : D)
  | tup (c : D)
  | list (s : Nat) {α : Type} (f : α → D) (z : α) (xs : List α)
  | fn {α : Type} (f g : α → D)
  | sl (b : Bool) (d : D)
  | any
  | ptr (d : D)
  | clp (d : D)
  | ifc (T : TypeId) (d : D)

def D.isAgg : D → Bool
  | .agg _ => true
  | _ => false

def vAgg : Value → Bool
  | .agg _ => true
  | _ => false

def cellsAt (w : World) (b off : Nat) (cs : List Value) : Prop := ∀ j (h : j < cs.length), w.cell? ⟨b, off + j, none⟩ = some cs[j]

/-- A block of cells. -/
def cellsB : Option Obj → Bool
  | some (.cells ..) => true
  | _ => false

/-- What lay below stays; the count of draws does not fall. -/
structure Belw (B : Nat) (w w' : World) : Prop extends Below B w w' where
  drawn : w.drawn ≤ w'.drawn

theorem Belw.refl (B : Nat) (w : World) : Belw B w w := ⟨Below.refl B w, Nat.le_refl _⟩

/-- The function has a body of its own. -/
def IsFn (P : Program) (f : FuncId) : Prop := (P.funcs[f]?).map (fun fn => (fn.name == "runtime.NumGoroutine", fn.body.isNone)) = some (false, false)

/-- How cells (or values) read as data: 'ok b': the blocks that the reading may look at. -/
def R (P : Program) : D → (Nat → Prop) → World → List Value → Prop
  | .int k n, _, _, vs => vs = [.int k n]
  | .bool b, _, _, vs => vs = [.bool b]
  | .str s, _, _, vs => vs = [.string s]
  | .nil, _, _, vs => vs = []
  | .cons a b, ok, w, vs => ∃ v vs', vs = v :: vs' ∧ vAgg v = a.isAgg ∧ R P a ok w v.cells.toList ∧ R P b ok w vs'
  | .agg c, ok, w, vs => R P c ok w vs
  | .tup c, ok, w, vs => ∃ ws : Array Value, vs = [.tuple ws] ∧ R P c ok w ws.toList
  | .list s f _ xs, ok, w, vs => ∃ a cap, vs = [.slice a xs.length cap] ∧ xs.length ≤ cap ∧ cap ≤ maxLen ∧ xs.length ≤ 140737488355328 ∧
      ∀ i (h : i < xs.length), ∃ p cs, a = some p ∧ p.spot = none ∧ ok p.block ∧ cs.length = s ∧ (∀ c ∈ cs, c.oneCell' = true) ∧
        cellsAt w p.block (p.off + i * s) cs ∧ R P (f xs[i]) ok w cs
  | .fn f g, ok, w, vs => ∃ F caps, vs = [.func (.func F) #[] caps] ∧ IsFn P F ∧ ∀ x w' (ok' : Nat → Prop) (args : List Value),
      (∀ b, ok b → cellsB w.heap[b]? = true → w'.heap[b]? = w.heap[b]?) → w.heap.size ≤ w'.heap.size → (∀ b, ok' b → b < w'.heap.size) → R P (f x) ok' w' args →
      Calls P F (args.toArray ++ caps) w' (fun e w'' => ∃ v, e = .returned v ∧ vAgg v = (g x).isAgg ∧
        R P (g x) (fun b => ok' b ∨ (w'.heap.size ≤ b ∧ b < w''.heap.size)) w'' v.cells.toList ∧ Belw w'.heap.size w' w'')
  | .sl b d, ok, w, vs => R P d ok w vs ∧ d.isAgg = false ∧ ∃ a l c, vs = [.slice a l c] ∧ a.isNone = b
  | .any, _, _, vs => ∃ v, vs = [v] ∧ v.oneCell' = true
  | .ptr d, ok, w, vs => ∃ p cs, vs = [.pointer (some p)] ∧ p.spot = none ∧ ok p.block ∧ (∀ c ∈ cs, c.oneCell' = true) ∧ cellsAt w p.block p.off cs ∧ R P d ok w cs
  | .clp d, ok, w, vs => R P d ok w vs ∧ d.isAgg = false ∧ ∃ a l, vs = [.slice a l l]
  | .ifc T d, ok, w, vs => ∃ v, vs = [.iface T v] ∧ vAgg v = d.isAgg ∧ R P d ok w v.cells.toList

/-- A value reads as data. -/
def RV (P : Program) (d : D) (ok : Nat → Prop) (w : World) (v : Value) : Prop := vAgg v = d.isAgg ∧ R P d ok w v.cells.toList

theorem cellsAt_of {w w' : World} {b off : Nat} {cs : List Value} (hb : w'.heap[b]? = w.heap[b]?) (h : cellsAt w b off cs) : cellsAt w' b off cs := by
  intro j hj
  rw [World.cell?_of_block (w := w) (w' := w') (a := ⟨b, off + j, none⟩) hb]
  exact h j hj

theorem cell_cells {w : World} {a : Addr} {v : Value} (h : w.cell? a = some v) : cellsB w.heap[a.block]? = true := by
  unfold World.cell? at h
  split at h
  · rename_i e; rw [e]; rfl
  · cases h

theorem cellsAt_ofC {w w' : World} {b off : Nat} {cs : List Value} (hb : cellsB w.heap[b]? = true → w'.heap[b]? = w.heap[b]?) (h : cellsAt w b off cs) : cellsAt w' b off cs := by
  intro j hj
  have h1 := h j hj
  rw [World.cell?_of_block (w := w) (w' := w') (a := ⟨b, off + j, none⟩) (hb (cell_cells h1))]
  exact h1

theorem R_monoC {P : Program} : ∀ (d : D) {ok ok' : Nat → Prop} {w w' : World} {vs : List Value}, (∀ b, ok b → ok' b ∧ (cellsB w.heap[b]? = true → w'.heap[b]? = w.heap[b]?)) → w.heap.size ≤ w'.heap.size →
    R P d ok w vs → R P d ok' w' vs := by
  intro d
  induction d with
  | int k n => intro ok ok' w w' vs _ _ h; exact h
  | bool b => intro ok ok' w w' vs _ _ h; exact h
  | str s => intro ok ok' w w' vs _ _ h; exact h
  | nil => intro ok ok' w w' vs _ _ h; exact h
  | cons a b iha ihb =>
    intro ok ok' w w' vs hk hs h
    obtain ⟨v, vs', rfl, h1, h2, h3⟩ := h
    exact ⟨v, vs', rfl, h1, iha hk hs h2, ihb hk hs h3⟩
  | agg c ih => intro ok ok' w w' vs hk hs h; exact ih hk hs h
  | tup c ih =>
    intro ok ok' w w' vs hk hs h
    obtain ⟨ws, rfl, h1⟩ := h
    exact ⟨ws, rfl, ih hk hs h1⟩
  | list s f z xs ih =>
    intro ok ok' w w' vs hk hs h
    obtain ⟨a, cap, rfl, h1, h2, h3, h4⟩ := h
    refine ⟨a, cap, rfl, h1, h2, h3, fun i hi => ?_⟩
    obtain ⟨p, cs, ha, hp, hok, hl, ho, hc, hr⟩ := h4 i hi
    exact ⟨p, cs, ha, hp, (hk _ hok).1, hl, ho, cellsAt_ofC (hk _ hok).2 hc, ih _ hk hs hr⟩
  | fn f g _ _ =>
    intro ok ok' w w' vs hk hs h
    obtain ⟨F, caps, rfl, hF, h1⟩ := h
    refine ⟨F, caps, rfl, hF, fun x w2 ok2 args ha hs2 hok2 hr => h1 x w2 ok2 args (fun b hb hc => ?_) (Nat.le_trans hs hs2) hok2 hr⟩
    have e := (hk b hb).2 hc
    rw [ha b (hk b hb).1 (by rw [e]; exact hc)]
    exact e
  | sl b d ih => intro ok ok' w w' vs hk hs h; exact ⟨ih hk hs h.1, h.2⟩
  | any => intro ok ok' w w' vs _ _ h; exact h
  | ptr d ih =>
    intro ok ok' w w' vs hk hs h
    obtain ⟨p, cs, rfl, h1, h2, h3, h4, h5⟩ := h
    exact ⟨p, cs, rfl, h1, (hk _ h2).1, h3, cellsAt_ofC (hk _ h2).2 h4, ih hk hs h5⟩
  | clp d ih => intro ok ok' w w' vs hk hs h; exact ⟨ih hk hs h.1, h.2⟩
  | ifc T d ih =>
    intro ok ok' w w' vs hk hs h
    obtain ⟨v, rfl, h1, h2⟩ := h
    exact ⟨v, rfl, h1, ih hk hs h2⟩

theorem R_mono {P : Program} (d : D) {ok ok' : Nat → Prop} {w w' : World} {vs : List Value} (hk : ∀ b, ok b → ok' b ∧ w'.heap[b]? = w.heap[b]?) (hs : w.heap.size ≤ w'.heap.size)
    (h : R P d ok w vs) : R P d ok' w' vs := R_monoC d (fun b hb => ⟨(hk b hb).1, fun _ => (hk b hb).2⟩) hs h

theorem RV_monoC {P : Program} {d : D} {ok ok' : Nat → Prop} {w w' : World} {v : Value} (hk : ∀ b, ok b → ok' b ∧ (cellsB w.heap[b]? = true → w'.heap[b]? = w.heap[b]?)) (hs : w.heap.size ≤ w'.heap.size)
    (h : RV P d ok w v) : RV P d ok' w' v := ⟨h.1, R_monoC d hk hs h.2⟩

theorem RV_mono {P : Program} {d : D} {ok ok' : Nat → Prop} {w w' : World} {v : Value} (hk : ∀ b, ok b → ok' b ∧ w'.heap[b]? = w.heap[b]?) (hs : w.heap.size ≤ w'.heap.size)
    (h : RV P d ok w v) : RV P d ok' w' v := ⟨h.1, R_mono d hk hs h.2⟩

/-- Abstract values. 'both v x': is v, and x; 'val d': reads as d; 'emp': the nil slice; 'ptr d': points at cells that read as d; 'ref o u off': points at cell off of the object o, in its version u; 'elt o u s i': at its element i (s cells each); 'sub o u s i': the slice of the object o from its element i on; 'etl o u s i': at element i of the row's tail o; 'bsl o u n': the slice of all n cells of the variable o;
'row o u': the slice of the object o; 'clo f c': a function that captured c; 'sv c': a struct with the cells c; 'gv g x': x, if g; 'cnil', 'ccons': chains. Objects: 'dead u', 'box u c' (a variable with the cells c), 'arr u e s by f z xs' (a row of its own: elements of type e, s cells, by bytes), 'mp u kv vv m' (a map with the entries m), 'tl u e s by f z xs' (a row of its own from some element on). -/
inductive AV : Type 1
  | any
  | both (v : Value) (x : AV)
  | val (d : D)
  | emp
  | ptr (d : D)
  | ref (o u off : Nat)
  | elt (o u s i : Nat)
  | sub (o u s i : Nat)
  | etl (o u s i : Nat)
  | bsl (o u n : Nat)
  | row (o u : Nat)
  | clo (f : FuncId) (c : AV)
  | sv (c : AV)
  | cnil
  | ccons (a b : AV)
  | gv (g : Bool) (x : AV)
  | dead (u : Nat)
  | box (u : Nat) (c : AV)
  | arr (u : Nat) (e : TypeId) (s by_ : Nat) {α : Type} (f : α → D) (z : α) (xs : List α)
  | mp (u : Nat) {κ α : Type} (kv : κ → Value) (vv : α → Value) (m : List (κ × α))
  | tl (u : Nat) (e : TypeId) (s by_ : Nat) {α : Type} (f : α → D) (z : α) (xs : List α)

def ver : AV → Option Nat
  | .dead u => some u
  | .box u _ => some u
  | .arr u .. => some u
  | .mp u .. => some u
  | .tl u .. => some u
  | _ => none

def live : AV → Bool
  | .box .. => true
  | .arr .. => true
  | .mp .. => true
  | .tl .. => true
  | _ => false

abbrev St := Nat → AV

/-- What an abstract value says of values: the state s and the places β, ν of its objects at hand. -/
def VR (P : Program) (ok : Nat → Prop) (w : World) (s : St) (β : Nat → Option Nat) (ν : Nat → Value) : AV → List Value → Prop
  | .any, vs => ∃ v, vs = [v]
  | .both v x, vs => vs = [v] ∧ VR P ok w s β ν x vs
  | .val d, vs => ∃ v, vs = [v] ∧ RV P d ok w v
  | .emp, vs => vs = [.slice none 0 0]
  | .ptr d, vs => ∃ p cs, vs = [.pointer (some p)] ∧ p.spot = none ∧ ok p.block ∧ (∀ c ∈ cs, c.oneCell' = true) ∧ cellsAt w p.block p.off cs ∧ R P d ok w cs
  | .ref o u off, vs => ∃ v k, vs = [v] ∧ ver (s o) = some k ∧ u ≤ k ∧ (u = k → live (s o) = true → ∃ b, β o = some b ∧ v = .pointer (some ⟨b, off, none⟩))
  | .elt o u sz i, vs => ∃ v k, vs = [v] ∧ ver (s o) = some k ∧ u ≤ k ∧ (u = k → live (s o) = true → ∃ b, β o = some b ∧ v = .pointer (some ⟨b, i * sz, none⟩))
  | .sub o u sz i, vs => ∃ v k, vs = [v] ∧ ver (s o) = some k ∧ u ≤ k ∧ (u = k → live (s o) = true → ∃ b l c, ν o = .slice (some ⟨b, 0, none⟩) l c ∧ v = .slice (some ⟨b, i * sz, none⟩) (l - i) (c - i))
  | .etl o u sz i, vs => ∃ v k, vs = [v] ∧ ver (s o) = some k ∧ u ≤ k ∧ (u = k → live (s o) = true → ∃ b off l c, ν o = .slice (some ⟨b, off, none⟩) l c ∧ v = .pointer (some ⟨b, off + i * sz, none⟩))
  | .bsl o u n, vs => ∃ v k, vs = [v] ∧ ver (s o) = some k ∧ u ≤ k ∧ (u = k → live (s o) = true → ∃ b, β o = some b ∧ v = .slice (some ⟨b, 0, none⟩) n n)
  | .row o u, vs => ∃ v k, vs = [v] ∧ ver (s o) = some k ∧ u ≤ k ∧ (u = k → live (s o) = true → v = ν o)
  | .clo f c, vs => ∃ caps : Array Value, vs = [.func (.func f) #[] caps] ∧ VR P ok w s β ν c caps.toList
  | .sv c, vs => ∃ cs : Array Value, vs = [.agg cs] ∧ (∀ q ∈ cs.toList, q.oneCell' = true) ∧ VR P ok w s β ν c cs.toList
  | .cnil, vs => vs = []
  | .ccons a b, vs => ∃ v vs', vs = v :: vs' ∧ VR P ok w s β ν a [v] ∧ VR P ok w s β ν b vs'
  | .gv g x, vs => ∃ v, vs = [v] ∧ (g = true → VR P ok w s β ν x [v]) ∧ (g = false → v = undef)
  | _, _ => False

/-- What an object's content says of memory. -/
def OR (P : Program) (ok : Nat → Prop) (w : World) (s : St) (β : Nat → Option Nat) (ν : Nat → Value) (o : Nat) : AV → Prop
  | .box _ c => ∃ b cs ty, β o = some b ∧ w.heap[b]? = some (.cells cs ty (0, 0)) ∧ (∀ c ∈ cs.toList, c.oneCell' = true) ∧ VR P ok w s β ν c cs.toList
  | .arr _ e sz by_ f _ xs => ∃ cells, w.ownsRow 0 e sz (ν o) xs.length cells ∧ β o = (ν o).ownBlock ∧ 0 < sz ∧ xs.length * by_ ≤ 140737488355328 ∧ xs.length ≤ 140737488355328 ∧ (∀ c ∈ cells, c.oneCell' = true) ∧
      ∀ i (h : i < xs.length), R P (f xs[i]) ok w ((cells.drop (i * sz)).take sz)
  | .tl _ e sz by_ f _ xs => ∃ g k c off cells, w.ownsRow 0 e sz (.slice (some ⟨g, 0, none⟩) (k + xs.length) (k + c)) (k + xs.length) cells ∧ (ν o = .slice (some ⟨g, off, none⟩) xs.length c ∧ (c ≠ 0 → off = k * sz)) ∧ β o = some g ∧ 0 < sz ∧ xs.length * by_ ≤ 140737488355328 ∧ xs.length ≤ 140737488355328 ∧ (∀ c ∈ cells, c.oneCell' = true) ∧
      ∀ i (h : i < xs.length), R P (f xs[i]) ok w ((cells.drop ((k + i) * sz)).take sz)
  | .mp _ kv vv m => ∃ b es clock, ν o = .map (some b) ∧ β o = some b ∧ w.heap[b]? = some (.map es clock) ∧ es.toList.map (fun e => (e.key, e.val)) = m.map (fun p => (kv p.1, vv p.2))
  | _ => True

/-- The world in which the call began, the blocks that its arguments may read, those that it may write, and a value that stays (its reading: key 29999). -/
structure Cx where
  n : Nat
  w0 : World
  ok0 : Nat → Prop
  bor : Nat → Prop
  av : Value
  kp : Nat → Option Obj
  defs : List Deferred
  hok : ∀ b, ok0 b → b < w0.heap.size ∧ ¬ bor b

def okAt (X : Cx) (s : St) (β : Nat → Option Nat) (w : World) (b : Nat) : Prop :=
  (X.ok0 b ∨ X.w0.heap.size ≤ b ∨ X.bor b) ∧ b < w.heap.size ∧ ∀ o, live (s o) = true → β o ≠ some b

structure RelB (P : Program) (X : Cx) (s : St) (a : Act) (w : World) (β : Nat → Option Nat) (ν : Nat → Value) : Prop where
  os : w.os = X.w0.os
  tape : w.tape = X.w0.tape
  output : w.output = X.w0.output
  drawn : X.w0.drawn ≤ w.drawn
  size : X.w0.heap.size ≤ w.heap.size
  frame : ∀ b, b < X.w0.heap.size → ¬ X.bor b → w.heap[b]? = X.w0.heap[b]?
  own : ∀ o b, live (s o) = true → β o = some b → (X.w0.heap.size ≤ b ∨ X.bor b) ∧ b < w.heap.size
  inj : ∀ o o' b, live (s o) = true → live (s o') = true → β o = some b → β o' = some b → o = o'
  obj : ∀ o, OR P (okAt X s β w) w s β ν o (s o)
  slot : ∀ t, t < 10000 → VR P (okAt X s β w) w s β ν (s t) [a.tmps.getD t undef]
  keys : ∀ t, t < 10000 → ver (s t) = none
  tmps : a.tmps.size = X.n
  defers : a.defers = X.defs
  kept : ∀ b o, X.kp b = some o → okAt X s β w b ∧ w.heap[b]? = some o
  anch : ver (s 29999) = none → VR P (okAt X s β w) w s β ν (s 29999) [X.av]

def Rel (P : Program) (X : Cx) (s : St) (a : Act) (w : World) : Prop := ∃ β ν, RelB P X s a w β ν

/-- A content at one key put anew. -/
def upd (s : St) (k : Nat) (x : AV) : St := fun t => bif Nat.beq t k then x else s t

theorem upd_same (s : St) (k : Nat) (x : AV) : upd s k x k = x := by simp [upd]
theorem upd_ne (s : St) {k t : Nat} (x : AV) (h : t ≠ k) : upd s k x t = s t := by
  have : Nat.beq t k = false := by
    cases hb : Nat.beq t k
    · rfl
    · exact absurd (Nat.eq_of_beq_eq_true hb) h
  simp [upd, this]
theorem upd_apply (s : St) (k : Nat) (x : AV) (t : Nat) : upd s k x t = if t = k then x else s t := by
  by_cases h : t = k
  · subst h; simp [upd_same]
  · simp [upd_ne s x h, h]

def ofL : List (Nat × AV) → St
  | [], _ => .any
  | (k, x) :: l, t => bif Nat.beq t k then x else ofL l t

/-- The objects that an abstract value names. -/
def ment : AV → List Nat
  | .ref o _ _ => [o]
  | .elt o _ _ _ => [o]
  | .sub o _ _ _ => [o]
  | .bsl o _ _ => [o]
  | .etl o _ _ _ => [o]
  | .row o _ => [o]
  | .clo _ c => ment c
  | .sv c => ment c
  | .ccons a b => ment a ++ ment b
  | .gv _ x => ment x
  | .both _ x => ment x
  | .box _ c => ment c
  | _ => []

/-- How the objects of two states go together: each goes on as it was, or has died, or is there in a later version. -/
def GoesAt (s s' : St) (β β' : Nat → Option Nat) (ν ν' : Nat → Value) (o : Nat) : Prop :=
  ∀ k, ver (s o) = some k → ∃ k', ver (s' o) = some k' ∧ k ≤ k' ∧ (k' = k → live (s' o) = true → live (s o) = true ∧ β' o = β o ∧ ν' o = ν o)

def Goes (s s' : St) (β β' : Nat → Option Nat) (ν ν' : Nat → Value) : Prop := ∀ o, GoesAt s s' β β' ν ν' o

theorem Goes.refl (s : St) (β : Nat → Option Nat) (ν : Nat → Value) : Goes s s β β ν ν := fun _ k h => ⟨k, h, Nat.le_refl _, fun _ hl => ⟨hl, rfl, rfl⟩⟩

theorem VR_monoC' {P : Program} {ok ok' : Nat → Prop} {w w' : World} {s s' : St} {β β' : Nat → Option Nat} {ν ν' : Nat → Value}
    (hk : ∀ b, ok b → ok' b ∧ (cellsB w.heap[b]? = true → w'.heap[b]? = w.heap[b]?)) (hs : w.heap.size ≤ w'.heap.size) :
    ∀ (x : AV) {vs : List Value}, (∀ o ∈ ment x, GoesAt s s' β β' ν ν' o) → VR P ok w s β ν x vs → VR P ok' w' s' β' ν' x vs := by
  intro x
  induction x with
  | any => intro vs hg h; exact h
  | both v x ih => intro vs hg h; exact ⟨h.1, ih hg h.2⟩
  | val d => intro vs hg h; obtain ⟨v, rfl, hv⟩ := h; exact ⟨v, rfl, RV_monoC hk hs hv⟩
  | emp => intro vs hg h; exact h
  | ptr d =>
    intro vs hg h
    obtain ⟨p, cs, rfl, h1, h2, h3, h4, h5⟩ := h
    exact ⟨p, cs, rfl, h1, (hk _ h2).1, h3, cellsAt_ofC (hk _ h2).2 h4, R_monoC d hk hs h5⟩
  | ref o u off =>
    intro vs hg h
    obtain ⟨v, k, rfl, h1, h2, h3⟩ := h
    obtain ⟨k', h4, h5, h6⟩ := hg o (by simp [ment]) k h1
    refine ⟨v, k', rfl, h4, Nat.le_trans h2 h5, fun hu hl => ?_⟩
    obtain rfl : k' = k := by omega
    obtain ⟨h7, h8, h9⟩ := h6 rfl hl
    rw [h8]
    exact h3 hu h7
  | elt o u sz i =>
    intro vs hg h
    obtain ⟨v, k, rfl, h1, h2, h3⟩ := h
    obtain ⟨k', h4, h5, h6⟩ := hg o (by simp [ment]) k h1
    refine ⟨v, k', rfl, h4, Nat.le_trans h2 h5, fun hu hl => ?_⟩
    obtain rfl : k' = k := by omega
    obtain ⟨h7, h8, h9⟩ := h6 rfl hl
    rw [h8]
    exact h3 hu h7
  | bsl o u n =>
    intro vs hg h
    obtain ⟨v, k, rfl, h1, h2, h3⟩ := h
    obtain ⟨k', h4, h5, h6⟩ := hg o (by simp [ment]) k h1
    refine ⟨v, k', rfl, h4, Nat.le_trans h2 h5, fun hu hl => ?_⟩
    obtain rfl : k' = k := by omega
    obtain ⟨h7, h8, h9⟩ := h6 rfl hl
    rw [h8]
    exact h3 hu h7
  | sub o u sz i =>
    intro vs hg h
    obtain ⟨v, k, rfl, h1, h2, h3⟩ := h
    obtain ⟨k', h4, h5, h6⟩ := hg o (by simp [ment]) k h1
    refine ⟨v, k', rfl, h4, Nat.le_trans h2 h5, fun hu hl => ?_⟩
    obtain rfl : k' = k := by omega
    obtain ⟨h7, h8, h9⟩ := h6 rfl hl
    rw [h9]
    exact h3 hu h7
  | etl o u sz i =>
    intro vs hg h
    obtain ⟨v, k, rfl, h1, h2, h3⟩ := h
    obtain ⟨k', h4, h5, h6⟩ := hg o (by simp [ment]) k h1
    refine ⟨v, k', rfl, h4, Nat.le_trans h2 h5, fun hu hl => ?_⟩
    obtain rfl : k' = k := by omega
    obtain ⟨h7, h8, h9⟩ := h6 rfl hl
    rw [h9]
    exact h3 hu h7
  | row o u =>
    intro vs hg h
    obtain ⟨v, k, rfl, h1, h2, h3⟩ := h
    obtain ⟨k', h4, h5, h6⟩ := hg o (by simp [ment]) k h1
    refine ⟨v, k', rfl, h4, Nat.le_trans h2 h5, fun hu hl => ?_⟩
    obtain rfl : k' = k := by omega
    obtain ⟨h7, h8, h9⟩ := h6 rfl hl
    rw [h9]
    exact h3 hu h7
  | clo f c ih => intro vs hg h; obtain ⟨caps, rfl, h1⟩ := h; exact ⟨caps, rfl, ih hg h1⟩
  | sv c ih => intro vs hg h; obtain ⟨caps, rfl, h0, h1⟩ := h; exact ⟨caps, rfl, h0, ih hg h1⟩
  | cnil => intro vs hg h; exact h
  | ccons a b iha ihb => intro vs hg h; obtain ⟨v, vs', rfl, h1, h2⟩ := h; exact ⟨v, vs', rfl, iha (fun o ho => hg o (by simp [ment, ho])) h1, ihb (fun o ho => hg o (by simp [ment, ho])) h2⟩
  | gv g x ih => intro vs hg h; obtain ⟨v, rfl, h1, h2⟩ := h; exact ⟨v, rfl, fun hg' => ih hg (h1 hg'), h2⟩
  | dead u => intro vs hg h; exact h
  | box u c _ => intro vs hg h; exact h
  | arr u e s by_ f z xs => intro vs hg h; exact h
  | mp u kv vv m => intro vs hg h; exact h
  | tl u e s by_ f z xs => intro vs hg h; exact h

theorem VR_mono' {P : Program} {ok ok' : Nat → Prop} {w w' : World} {s s' : St} {β β' : Nat → Option Nat} {ν ν' : Nat → Value}
    (hk : ∀ b, ok b → ok' b ∧ w'.heap[b]? = w.heap[b]?) (hs : w.heap.size ≤ w'.heap.size) (x : AV) {vs : List Value} (hg : ∀ o ∈ ment x, GoesAt s s' β β' ν ν' o) (h : VR P ok w s β ν x vs) : VR P ok' w' s' β' ν' x vs :=
  VR_monoC' (fun b hb => ⟨(hk b hb).1, fun _ => (hk b hb).2⟩) hs x hg h

theorem VR_mono {P : Program} {ok ok' : Nat → Prop} {w w' : World} {s s' : St} {β β' : Nat → Option Nat} {ν ν' : Nat → Value}
    (hk : ∀ b, ok b → ok' b ∧ w'.heap[b]? = w.heap[b]?) (hs : w.heap.size ≤ w'.heap.size) (hg : Goes s s' β β' ν ν')
    (x : AV) {vs : List Value} (h : VR P ok w s β ν x vs) : VR P ok' w' s' β' ν' x vs := VR_mono' hk hs x (fun o _ => hg o) h

end Go.Um
