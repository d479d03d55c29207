/- The abstract layer of the walks of this seat: pure data 'D', abstract values 'AV', and what they say of a frame and a world. No condition. -/
import Derived.WalkKit
import Derived.Orders
import Derived.Deep.LoopGhost
import Derived.Sort.LoopGhostIn
import Derived.OrdersIn
import Derived.RangeFuncNested
import Derived.RangeFuncLeaves
import Derived.IntWalk
namespace Go.Um
open Go Go.RowKit
inductive D : Type 1
  | int (k : IntKind) (n : Int)
  | bool (b : Bool)
  | str (s : ByteArray)
  | nil
  | cons (a b : D)
  | agg (c : D)
  | tup (c : D)
  | list (s : Nat) {α : Type} (f : α → D) (z : α) (xs : List α)
  | fn {α : Type} (f g : α → D)
  | sl (b : Bool) (d : D)
  | any
  | ptr (d : D)
  | clp (d : D)
  | ifc (T : TypeId) (d : D)

def D.isAgg : D → Bool
  | .agg _ => true
  | _ => false

def vAgg : Value → Bool
  | .agg _ => true
  | _ => false

def cellsAt (w : World) (b off : Nat) (cs : List Value) : Prop := ∀ j (h : j < cs.length), w.cell? ⟨b, off + j, none⟩ = some cs[j]
def cellsB : Option Obj → Bool
  | some (.cells ..) => true
  | _ => false
structure Belw (B : Nat) (w w' : World) : Prop extends Below B w w' where
  drawn : w.drawn ≤ w'.drawn
def IsFn (P : Program) (f : FuncId) : Prop := (P.funcs[f]?).map (fun fn => (fn.name == "runtime.NumGoroutine", fn.body.isNone)) = some (false, false)
def R (P : Program) : D → (Nat → Prop) → World → List Value → Prop
  | .int k n, _, _, vs => vs = [.int k n]
  | .bool b, _, _, vs => vs = [.bool b]
  | .str s, _, _, vs => vs = [.string s]
  | .nil, _, _, vs => vs = []
  | .cons a b, ok, w, vs => ∃ v vs', vs = v :: vs' ∧ vAgg v = a.isAgg ∧ R P a ok w v.cells.toList ∧ R P b ok w vs'
  | .agg c, ok, w, vs => R P c ok w vs
  | .tup c, ok, w, vs => ∃ ws : Array Value, vs = [.tuple ws] ∧ R P c ok w ws.toList
  | .list s f _ xs, ok, w, vs => ∃ a cap, vs = [.slice a xs.length cap] ∧ xs.length ≤ cap ∧ cap ≤ maxLen ∧ xs.length ≤ 140737488355328 ∧
      ∀ i (h : i < xs.length), ∃ p cs, a = some p ∧ p.spot = none ∧ ok p.block ∧ cs.length = s ∧ (∀ c ∈ cs, c.oneCell' = true) ∧
        cellsAt w p.block (p.off + i * s) cs ∧ R P (f xs[i]) ok w cs
  | .fn f g, ok, w, vs => ∃ F caps, vs = [.func (.func F) #[] caps] ∧ IsFn P F ∧ ∀ x w' (ok' : Nat → Prop) (args : List Value),
      (∀ b, ok b → cellsB w.heap[b]? = true → w'.heap[b]? = w.heap[b]?) → w.heap.size ≤ w'.heap.size → (∀ b, ok' b → b < w'.heap.size) → R P (f x) ok' w' args →
      Calls P F (args.toArray ++ caps) w' (fun e w'' => ∃ v, e = .returned v ∧ vAgg v = (g x).isAgg ∧
        R P (g x) (fun b => ok' b ∨ (w'.heap.size ≤ b ∧ b < w''.heap.size)) w'' v.cells.toList ∧ Belw w'.heap.size w' w'')
  | .sl b d, ok, w, vs => R P d ok w vs ∧ d.isAgg = false ∧ ∃ a l c, vs = [.slice a l c] ∧ a.isNone = b
  | .any, _, _, vs => ∃ v, vs = [v] ∧ v.oneCell' = true
  | .ptr d, ok, w, vs => ∃ p cs, vs = [.pointer (some p)] ∧ p.spot = none ∧ ok p.block ∧ (∀ c ∈ cs, c.oneCell' = true) ∧ cellsAt w p.block p.off cs ∧ R P d ok w cs
  | .clp d, ok, w, vs => R P d ok w vs ∧ d.isAgg = false ∧ ∃ a l, vs = [.slice a l l]
  | .ifc T d, ok, w, vs => ∃ v, vs = [.iface T v] ∧ vAgg v = d.isAgg ∧ R P d ok w v.cells.toList
def RV (P : Program) (d : D) (ok : Nat → Prop) (w : World) (v : Value) : Prop := vAgg v = d.isAgg ∧ R P d ok w v.cells.toList

theorem cell_cells {w : World} {a : Addr} {v : Value} (h : w.cell? a = some v) : cellsB w.heap[a.block]? = true := by
  unfold World.cell? at h
  split at h
  · rename_i e; rw [e]; rfl
  · cases h

theorem cellsAt_ofC {w w' : World} {b off : Nat} {cs : List Value} (hb : cellsB w.heap[b]? = true → w'.heap[b]? = w.heap[b]?) (h : cellsAt w b off cs) : cellsAt w' b off cs := by
  intro j hj
  have h1 := h j hj
  rw [World.cell?_of_block (w := w) (w' := w') (a := ⟨b, off + j, none⟩) (hb (cell_cells h1))]
  exact h1

theorem R_monoC {P : Program} : ∀ (d : D) {ok ok' : Nat → Prop} {w w' : World} {vs : List Value}, (∀ b, ok b → ok' b ∧ (cellsB w.heap[b]? = true → w'.heap[b]? = w.heap[b]?)) → w.heap.size ≤ w'.heap.size →
    R P d ok w vs → R P d ok' w' vs := by
  intro d
  induction d with
  | int k n => intro ok ok' w w' vs _ _ h; exact h
  | bool b => intro ok ok' w w' vs _ _ h; exact h
  | str s => intro ok ok' w w' vs _ _ h; exact h
  | nil => intro ok ok' w w' vs _ _ h; exact h
  | cons a b iha ihb =>
    intro ok ok' w w' vs hk hs h
    obtain ⟨v, vs', rfl, h1, h2, h3⟩ := h
    exact ⟨v, vs', rfl, h1, iha hk hs h2, ihb hk hs h3⟩
  | agg c ih => intro ok ok' w w' vs hk hs h; exact ih hk hs h
  | tup c ih =>
    intro ok ok' w w' vs hk hs h
    obtain ⟨ws, rfl, h1⟩ := h
    exact ⟨ws, rfl, ih hk hs h1⟩
  | list s f z xs ih =>
    intro ok ok' w w' vs hk hs h
    obtain ⟨a, cap, rfl, h1, h2, h3, h4⟩ := h
    refine ⟨a, cap, rfl, h1, h2, h3, fun i hi => ?_⟩
    obtain ⟨p, cs, ha, hp, hok, hl, ho, hc, hr⟩ := h4 i hi
    exact ⟨p, cs, ha, hp, (hk _ hok).1, hl, ho, cellsAt_ofC (hk _ hok).2 hc, ih _ hk hs hr⟩
  | fn f g _ _ =>
    intro ok ok' w w' vs hk hs h
    obtain ⟨F, caps, rfl, hF, h1⟩ := h
    refine ⟨F, caps, rfl, hF, fun x w2 ok2 args ha hs2 hok2 hr => h1 x w2 ok2 args (fun b hb hc => ?_) (Nat.le_trans hs hs2) hok2 hr⟩
    have e := (hk b hb).2 hc
    rw [ha b (hk b hb).1 (by rw [e]; exact hc)]
    exact e
  | sl b d ih => intro ok ok' w w' vs hk hs h; exact ⟨ih hk hs h.1, h.2⟩
  | any => intro ok ok' w w' vs _ _ h; exact h
  | ptr d ih =>
    intro ok ok' w w' vs hk hs h
    obtain ⟨p, cs, rfl, h1, h2, h3, h4, h5⟩ := h
    exact ⟨p, cs, rfl, h1, (hk _ h2).1, h3, cellsAt_ofC (hk _ h2).2 h4, ih hk hs h5⟩
  | clp d ih => intro ok ok' w w' vs hk hs h; exact ⟨ih hk hs h.1, h.2⟩
  | ifc T d ih =>
    intro ok ok' w w' vs hk hs h
    obtain ⟨v, rfl, h1, h2⟩ := h
    exact ⟨v, rfl, h1, ih hk hs h2⟩

theorem R_mono {P : Program} (d : D) {ok ok' : Nat → Prop} {w w' : World} {vs : List Value} (hk : ∀ b, ok b → ok' b ∧ w'.heap[b]? = w.heap[b]?) (hs : w.heap.size ≤ w'.heap.size)
    (h : R P d ok w vs) : R P d ok' w' vs := R_monoC d (fun b hb => ⟨(hk b hb).1, fun _ => (hk b hb).2⟩) hs h

theorem RV_monoC {P : Program} {d : D} {ok ok' : Nat → Prop} {w w' : World} {v : Value} (hk : ∀ b, ok b → ok' b ∧ (cellsB w.heap[b]? = true → w'.heap[b]? = w.heap[b]?)) (hs : w.heap.size ≤ w'.heap.size)
    (h : RV P d ok w v) : RV P d ok' w' v := ⟨h.1, R_monoC d hk hs h.2⟩

theorem RV_mono {P : Program} {d : D} {ok ok' : Nat → Prop} {w w' : World} {v : Value} (hk : ∀ b, ok b → ok' b ∧ w'.heap[b]? = w.heap[b]?) (hs : w.heap.size ≤ w'.heap.size)
    (h : RV P d ok w v) : RV P d ok' w' v := ⟨h.1, R_mono d hk hs h.2⟩
inductive AV : Type 1
  | any
  | both (v : Value) (x : AV)
  | val (d : D)
  | emp
  | ptr (d : D)
  | ref (o u off : Nat)
  | elt (o u s i : Nat)
  | sub (o u s i : Nat)
  | etl (o u s i : Nat)
  | bsl (o u n : Nat)
  | row (o u : Nat)
  | clo (f : FuncId) (c : AV)
  | sv (c : AV)
  | cnil
  | ccons (a b : AV)
  | gv (g : Bool) (x : AV)
  | dead (u : Nat)
  | box (u : Nat) (c : AV)
  | arr (u : Nat) (e : TypeId) (s by_ : Nat) {α : Type} (f : α → D) (z : α) (xs : List α)
  | mp (u : Nat) {κ α : Type} (kv : κ → Value) (vv : α → Value) (m : List (κ × α))
  | tl (u : Nat) (e : TypeId) (s by_ : Nat) {α : Type} (f : α → D) (z : α) (xs : List α)

def ver : AV → Option Nat
  | .dead u => some u
  | .box u _ => some u
  | .arr u .. => some u
  | .mp u .. => some u
  | .tl u .. => some u
  | _ => none

def live : AV → Bool
  | .box .. => true
  | .arr .. => true
  | .mp .. => true
  | .tl .. => true
  | _ => false

abbrev St := Nat → AV
def VR (P : Program) (ok : Nat → Prop) (w : World) (s : St) (β : Nat → Option Nat) (ν : Nat → Value) : AV → List Value → Prop
  | .any, vs => ∃ v, vs = [v]
  | .both v x, vs => vs = [v] ∧ VR P ok w s β ν x vs
  | .val d, vs => ∃ v, vs = [v] ∧ RV P d ok w v
  | .emp, vs => vs = [.slice none 0 0]
  | .ptr d, vs => ∃ p cs, vs = [.pointer (some p)] ∧ p.spot = none ∧ ok p.block ∧ (∀ c ∈ cs, c.oneCell' = true) ∧ cellsAt w p.block p.off cs ∧ R P d ok w cs
  | .ref o u off, vs => ∃ v k, vs = [v] ∧ ver (s o) = some k ∧ u ≤ k ∧ (u = k → live (s o) = true → ∃ b, β o = some b ∧ v = .pointer (some ⟨b, off, none⟩))
  | .elt o u sz i, vs => ∃ v k, vs = [v] ∧ ver (s o) = some k ∧ u ≤ k ∧ (u = k → live (s o) = true → ∃ b, β o = some b ∧ v = .pointer (some ⟨b, i * sz, none⟩))
  | .sub o u sz i, vs => ∃ v k, vs = [v] ∧ ver (s o) = some k ∧ u ≤ k ∧ (u = k → live (s o) = true → ∃ b l c, ν o = .slice (some ⟨b, 0, none⟩) l c ∧ v = .slice (some ⟨b, i * sz, none⟩) (l - i) (c - i))
  | .etl o u sz i, vs => ∃ v k, vs = [v] ∧ ver (s o) = some k ∧ u ≤ k ∧ (u = k → live (s o) = true → ∃ b off l c, ν o = .slice (some ⟨b, off, none⟩) l c ∧ v = .pointer (some ⟨b, off + i * sz, none⟩))
  | .bsl o u n, vs => ∃ v k, vs = [v] ∧ ver (s o) = some k ∧ u ≤ k ∧ (u = k → live (s o) = true → ∃ b, β o = some b ∧ v = .slice (some ⟨b, 0, none⟩) n n)
  | .row o u, vs => ∃ v k, vs = [v] ∧ ver (s o) = some k ∧ u ≤ k ∧ (u = k → live (s o) = true → v = ν o)
  | .clo f c, vs => ∃ caps : Array Value, vs = [.func (.func f) #[] caps] ∧ VR P ok w s β ν c caps.toList
  | .sv c, vs => ∃ cs : Array Value, vs = [.agg cs] ∧ (∀ q ∈ cs.toList, q.oneCell' = true) ∧ VR P ok w s β ν c cs.toList
  | .cnil, vs => vs = []
  | .ccons a b, vs => ∃ v vs', vs = v :: vs' ∧ VR P ok w s β ν a [v] ∧ VR P ok w s β ν b vs'
  | .gv g x, vs => ∃ v, vs = [v] ∧ (g = true → VR P ok w s β ν x [v]) ∧ (g = false → v = undef)
  | _, _ => False
def OR (P : Program) (ok : Nat → Prop) (w : World) (s : St) (β : Nat → Option Nat) (ν : Nat → Value) (o : Nat) : AV → Prop
  | .box _ c => ∃ b cs ty, β o = some b ∧ w.heap[b]? = some (.cells cs ty (0, 0)) ∧ (∀ c ∈ cs.toList, c.oneCell' = true) ∧ VR P ok w s β ν c cs.toList
  | .arr _ e sz by_ f _ xs => ∃ cells, w.ownsRow 0 e sz (ν o) xs.length cells ∧ β o = (ν o).ownBlock ∧ 0 < sz ∧ xs.length * by_ ≤ 140737488355328 ∧ xs.length ≤ 140737488355328 ∧ (∀ c ∈ cells, c.oneCell' = true) ∧
      ∀ i (h : i < xs.length), R P (f xs[i]) ok w ((cells.drop (i * sz)).take sz)
  | .tl _ e sz by_ f _ xs => ∃ g k c off cells, w.ownsRow 0 e sz (.slice (some ⟨g, 0, none⟩) (k + xs.length) (k + c)) (k + xs.length) cells ∧ (ν o = .slice (some ⟨g, off, none⟩) xs.length c ∧ (c ≠ 0 → off = k * sz)) ∧ β o = some g ∧ 0 < sz ∧ xs.length * by_ ≤ 140737488355328 ∧ xs.length ≤ 140737488355328 ∧ (∀ c ∈ cells, c.oneCell' = true) ∧
      ∀ i (h : i < xs.length), R P (f xs[i]) ok w ((cells.drop ((k + i) * sz)).take sz)
  | .mp _ kv vv m => ∃ b es clock, ν o = .map (some b) ∧ β o = some b ∧ w.heap[b]? = some (.map es clock) ∧ es.toList.map (fun e => (e.key, e.val)) = m.map (fun p => (kv p.1, vv p.2))
  | _ => True
structure Cx where
  n : Nat
  w0 : World
  ok0 : Nat → Prop
  bor : Nat → Prop
  av : Value
  kp : Nat → Option Obj
  defs : List Deferred
  hok : ∀ b, ok0 b → b < w0.heap.size ∧ ¬ bor b

def okAt (X : Cx) (s : St) (β : Nat → Option Nat) (w : World) (b : Nat) : Prop :=
  (X.ok0 b ∨ X.w0.heap.size ≤ b ∨ X.bor b) ∧ b < w.heap.size ∧ ∀ o, live (s o) = true → β o ≠ some b

structure RelB (P : Program) (X : Cx) (s : St) (a : Act) (w : World) (β : Nat → Option Nat) (ν : Nat → Value) : Prop where
  os : w.os = X.w0.os
  tape : w.tape = X.w0.tape
  output : w.output = X.w0.output
  drawn : X.w0.drawn ≤ w.drawn
  size : X.w0.heap.size ≤ w.heap.size
  frame : ∀ b, b < X.w0.heap.size → ¬ X.bor b → w.heap[b]? = X.w0.heap[b]?
  own : ∀ o b, live (s o) = true → β o = some b → (X.w0.heap.size ≤ b ∨ X.bor b) ∧ b < w.heap.size
  inj : ∀ o o' b, live (s o) = true → live (s o') = true → β o = some b → β o' = some b → o = o'
  obj : ∀ o, OR P (okAt X s β w) w s β ν o (s o)
  slot : ∀ t, t < 10000 → VR P (okAt X s β w) w s β ν (s t) [a.tmps.getD t undef]
  keys : ∀ t, t < 10000 → ver (s t) = none
  tmps : a.tmps.size = X.n
  defers : a.defers = X.defs
  kept : ∀ b o, X.kp b = some o → okAt X s β w b ∧ w.heap[b]? = some o
  anch : ver (s 29999) = none → VR P (okAt X s β w) w s β ν (s 29999) [X.av]

def Rel (P : Program) (X : Cx) (s : St) (a : Act) (w : World) : Prop := ∃ β ν, RelB P X s a w β ν
def upd (s : St) (k : Nat) (x : AV) : St := fun t => bif Nat.beq t k then x else s t

theorem upd_same (s : St) (k : Nat) (x : AV) : upd s k x k = x := by simp [upd]
theorem upd_ne (s : St) {k t : Nat} (x : AV) (h : t ≠ k) : upd s k x t = s t := by
  have : Nat.beq t k = false := by
    cases hb : Nat.beq t k
    · rfl
    · exact absurd (Nat.eq_of_beq_eq_true hb) h
  simp [upd, this]
def ofL : List (Nat × AV) → St
  | [], _ => .any
  | (k, x) :: l, t => bif Nat.beq t k then x else ofL l t
def ment : AV → List Nat
  | .ref o _ _ => [o]
  | .elt o _ _ _ => [o]
  | .sub o _ _ _ => [o]
  | .bsl o _ _ => [o]
  | .etl o _ _ _ => [o]
  | .row o _ => [o]
  | .clo _ c => ment c
  | .sv c => ment c
  | .ccons a b => ment a ++ ment b
  | .gv _ x => ment x
  | .both _ x => ment x
  | .box _ c => ment c
  | _ => []
def GoesAt (s s' : St) (β β' : Nat → Option Nat) (ν ν' : Nat → Value) (o : Nat) : Prop :=
  ∀ k, ver (s o) = some k → ∃ k', ver (s' o) = some k' ∧ k ≤ k' ∧ (k' = k → live (s' o) = true → live (s o) = true ∧ β' o = β o ∧ ν' o = ν o)

def Goes (s s' : St) (β β' : Nat → Option Nat) (ν ν' : Nat → Value) : Prop := ∀ o, GoesAt s s' β β' ν ν' o

theorem Goes.refl (s : St) (β : Nat → Option Nat) (ν : Nat → Value) : Goes s s β β ν ν := fun _ k h => ⟨k, h, Nat.le_refl _, fun _ hl => ⟨hl, rfl, rfl⟩⟩

theorem VR_monoC' {P : Program} {ok ok' : Nat → Prop} {w w' : World} {s s' : St} {β β' : Nat → Option Nat} {ν ν' : Nat → Value}
    (hk : ∀ b, ok b → ok' b ∧ (cellsB w.heap[b]? = true → w'.heap[b]? = w.heap[b]?)) (hs : w.heap.size ≤ w'.heap.size) :
    ∀ (x : AV) {vs : List Value}, (∀ o ∈ ment x, GoesAt s s' β β' ν ν' o) → VR P ok w s β ν x vs → VR P ok' w' s' β' ν' x vs := by
  intro x
  induction x with
  | any => intro vs hg h; exact h
  | both v x ih => intro vs hg h; exact ⟨h.1, ih hg h.2⟩
  | val d => intro vs hg h; obtain ⟨v, rfl, hv⟩ := h; exact ⟨v, rfl, RV_monoC hk hs hv⟩
  | emp => intro vs hg h; exact h
  | ptr d =>
    intro vs hg h
    obtain ⟨p, cs, rfl, h1, h2, h3, h4, h5⟩ := h
    exact ⟨p, cs, rfl, h1, (hk _ h2).1, h3, cellsAt_ofC (hk _ h2).2 h4, R_monoC d hk hs h5⟩
  | ref o u off =>
    intro vs hg h
    obtain ⟨v, k, rfl, h1, h2, h3⟩ := h
    obtain ⟨k', h4, h5, h6⟩ := hg o (by simp [ment]) k h1
    refine ⟨v, k', rfl, h4, Nat.le_trans h2 h5, fun hu hl => ?_⟩
    obtain rfl : k' = k := by omega
    obtain ⟨h7, h8, h9⟩ := h6 rfl hl
    rw [h8]
    exact h3 hu h7
  | elt o u sz i =>
    intro vs hg h
    obtain ⟨v, k, rfl, h1, h2, h3⟩ := h
    obtain ⟨k', h4, h5, h6⟩ := hg o (by simp [ment]) k h1
    refine ⟨v, k', rfl, h4, Nat.le_trans h2 h5, fun hu hl => ?_⟩
    obtain rfl : k' = k := by omega
    obtain ⟨h7, h8, h9⟩ := h6 rfl hl
    rw [h8]
    exact h3 hu h7
  | bsl o u n =>
    intro vs hg h
    obtain ⟨v, k, rfl, h1, h2, h3⟩ := h
    obtain ⟨k', h4, h5, h6⟩ := hg o (by simp [ment]) k h1
    refine ⟨v, k', rfl, h4, Nat.le_trans h2 h5, fun hu hl => ?_⟩
    obtain rfl : k' = k := by omega
    obtain ⟨h7, h8, h9⟩ := h6 rfl hl
    rw [h8]
    exact h3 hu h7
  | sub o u sz i =>
    intro vs hg h
    obtain ⟨v, k, rfl, h1, h2, h3⟩ := h
    obtain ⟨k', h4, h5, h6⟩ := hg o (by simp [ment]) k h1
    refine ⟨v, k', rfl, h4, Nat.le_trans h2 h5, fun hu hl => ?_⟩
    obtain rfl : k' = k := by omega
    obtain ⟨h7, h8, h9⟩ := h6 rfl hl
    rw [h9]
    exact h3 hu h7
  | etl o u sz i =>
    intro vs hg h
    obtain ⟨v, k, rfl, h1, h2, h3⟩ := h
    obtain ⟨k', h4, h5, h6⟩ := hg o (by simp [ment]) k h1
    refine ⟨v, k', rfl, h4, Nat.le_trans h2 h5, fun hu hl => ?_⟩
    obtain rfl : k' = k := by omega
    obtain ⟨h7, h8, h9⟩ := h6 rfl hl
    rw [h9]
    exact h3 hu h7
  | row o u =>
    intro vs hg h
    obtain ⟨v, k, rfl, h1, h2, h3⟩ := h
    obtain ⟨k', h4, h5, h6⟩ := hg o (by simp [ment]) k h1
    refine ⟨v, k', rfl, h4, Nat.le_trans h2 h5, fun hu hl => ?_⟩
    obtain rfl : k' = k := by omega
    obtain ⟨h7, h8, h9⟩ := h6 rfl hl
    rw [h9]
    exact h3 hu h7
  | clo f c ih => intro vs hg h; obtain ⟨caps, rfl, h1⟩ := h; exact ⟨caps, rfl, ih hg h1⟩
  | sv c ih => intro vs hg h; obtain ⟨caps, rfl, h0, h1⟩ := h; exact ⟨caps, rfl, h0, ih hg h1⟩
  | cnil => intro vs hg h; exact h
  | ccons a b iha ihb => intro vs hg h; obtain ⟨v, vs', rfl, h1, h2⟩ := h; exact ⟨v, vs', rfl, iha (fun o ho => hg o (by simp [ment, ho])) h1, ihb (fun o ho => hg o (by simp [ment, ho])) h2⟩
  | gv g x ih => intro vs hg h; obtain ⟨v, rfl, h1, h2⟩ := h; exact ⟨v, rfl, fun hg' => ih hg (h1 hg'), h2⟩
  | dead u => intro vs hg h; exact h
  | box u c _ => intro vs hg h; exact h
  | arr u e s by_ f z xs => intro vs hg h; exact h
  | mp u kv vv m => intro vs hg h; exact h
  | tl u e s by_ f z xs => intro vs hg h; exact h

theorem VR_mono' {P : Program} {ok ok' : Nat → Prop} {w w' : World} {s s' : St} {β β' : Nat → Option Nat} {ν ν' : Nat → Value}
    (hk : ∀ b, ok b → ok' b ∧ w'.heap[b]? = w.heap[b]?) (hs : w.heap.size ≤ w'.heap.size) (x : AV) {vs : List Value} (hg : ∀ o ∈ ment x, GoesAt s s' β β' ν ν' o) (h : VR P ok w s β ν x vs) : VR P ok' w' s' β' ν' x vs :=
  VR_monoC' (fun b hb => ⟨(hk b hb).1, fun _ => (hk b hb).2⟩) hs x hg h

theorem VR_mono {P : Program} {ok ok' : Nat → Prop} {w w' : World} {s s' : St} {β β' : Nat → Option Nat} {ν ν' : Nat → Value}
    (hk : ∀ b, ok b → ok' b ∧ w'.heap[b]? = w.heap[b]?) (hs : w.heap.size ≤ w'.heap.size) (hg : Goes s s' β β' ν ν')
    (x : AV) {vs : List Value} (h : VR P ok w s β ν x vs) : VR P ok' w' s' β' ν' x vs := VR_mono' hk hs x (fun o _ => hg o) h

end Go.Um

/- Steps of the abstract layer: how the relation between an abstract state and (frame, world) is kept. No condition. -/

namespace Go.Um
open Go Go.RowKit

theorem live_ver {x : AV} (h : ver x = none) : live x = false := by cases x <;> simp_all [ver, live]
theorem ownsRow_of_block {w w' : World} {base : Nat} {e : TypeId} {size : Nat} {v : Value} {n : Nat} {xs : List Value} (h : w.ownsRow base e size v n xs)
    (hb : ∀ b, v.ownBlock = some b → w'.heap[b]? = w.heap[b]?) : w'.ownsRow base e size v n xs := by
  obtain ⟨h1, h2⟩ := h
  refine ⟨h1, ?_⟩
  rcases h2 with h2 | ⟨g, cap, cur, rfl, hg, hh, r⟩
  · exact .inl h2
  · exact .inr ⟨g, cap, cur, rfl, hg, by rw [hb g rfl]; exact hh, r⟩

theorem OR_monoC {P : Program} {ok ok' : Nat → Prop} {w w' : World} {s s' : St} {β β' : Nat → Option Nat} {ν ν' : Nat → Value} {o : Nat}
    (hk : ∀ b, ok b → ok' b ∧ (cellsB w.heap[b]? = true → w'.heap[b]? = w.heap[b]?)) (hs : w.heap.size ≤ w'.heap.size) (hg : Goes s s' β β' ν ν') (hβ : β' o = β o) (hν : ν' o = ν o)
    (hb : ∀ b, β o = some b → w'.heap[b]? = w.heap[b]?) : ∀ (x : AV), OR P ok w s β ν o x → OR P ok' w' s' β' ν' o x := by
  intro x h
  cases x with
  | box u c =>
    obtain ⟨b, cs, ty, h1, h2, h3, h4⟩ := h
    exact ⟨b, cs, ty, by rw [hβ]; exact h1, by rw [hb b h1]; exact h2, h3, VR_monoC' hk hs _ (fun o _ => hg o) h4⟩
  | arr u e sz by_ f z xs =>
    obtain ⟨cells, h1, h2, h3, h4, h4', h5, h6⟩ := h
    refine ⟨cells, ?_, by rw [hβ, hν]; exact h2, h3, h4, h4', h5, fun i hi => R_monoC _ hk hs (h6 i hi)⟩
    rw [hν]
    exact ownsRow_of_block h1 (fun b e => hb b (by rw [h2]; exact e))
  | tl u e sz by_ f z xs =>
    obtain ⟨g, k, c, off, cells, h1, h2, h3, h4, h5, h6, h7, h8⟩ := h
    exact ⟨g, k, c, off, cells, ownsRow_of_block h1 (fun b e => hb b (by rw [h3, ← e]; rfl)), by rw [hν]; exact h2, by rw [hβ]; exact h3, h4, h5, h6, h7, fun i hi => R_monoC _ hk hs (h8 i hi)⟩
  | mp u kv vv m =>
    obtain ⟨b, es, cl, h1, h2, h3, h4⟩ := h
    exact ⟨b, es, cl, by rw [hν]; exact h1, by rw [hβ]; exact h2, by rw [hb b h2]; exact h3, h4⟩
  | _ => trivial

theorem OR_mono {P : Program} {ok ok' : Nat → Prop} {w w' : World} {s s' : St} {β β' : Nat → Option Nat} {ν ν' : Nat → Value} {o : Nat}
    (hk : ∀ b, ok b → ok' b ∧ w'.heap[b]? = w.heap[b]?) (hs : w.heap.size ≤ w'.heap.size) (hg : Goes s s' β β' ν ν') (hβ : β' o = β o) (hν : ν' o = ν o)
    (hb : ∀ b, β o = some b → w'.heap[b]? = w.heap[b]?) (x : AV) (h : OR P ok w s β ν o x) : OR P ok' w' s' β' ν' o x :=
  OR_monoC (fun b hb => ⟨(hk b hb).1, fun _ => (hk b hb).2⟩) hs hg hβ hν hb x h

theorem OR_dead {P : Program} {ok : Nat → Prop} {w : World} {s : St} {β : Nat → Option Nat} {ν : Nat → Value} {o : Nat} {x : AV} (h : live x = false) : OR P ok w s β ν o x := by
  cases x with
  | box u c => cases h
  | arr u e sz by_ f z xs => cases h
  | mp u kv vv m => cases h
  | tl u e s by_ f z xs => cases h
  | _ => trivial
theorem RelB.move {P : Program} {X : Cx} {s s' : St} {a a' : Act} {w w' : World} {β β' : Nat → Option Nat} {ν ν' : Nat → Value} (h : RelB P X s a w β ν)
    (hos : w'.os = w.os) (htape : w'.tape = w.tape) (hout : w'.output = w.output ∧ w.drawn ≤ w'.drawn) (hsize : w.heap.size ≤ w'.heap.size)
    (hframe : ∀ b, b < X.w0.heap.size → ¬ X.bor b → w'.heap[b]? = w.heap[b]?)
    (hok : ∀ b, okAt X s β w b → okAt X s' β' w' b ∧ w'.heap[b]? = w.heap[b]?)
    (hgoes : Goes s s' β β' ν ν')
    (hown : ∀ o b, live (s' o) = true → β' o = some b → (live (s o) = true ∧ β o = some b) ∨ ((X.w0.heap.size ≤ b ∨ X.bor b) ∧ b < w'.heap.size))
    (hinj : ∀ o o' b, live (s' o) = true → live (s' o') = true → β' o = some b → β' o' = some b → o = o')
    (hobj : ∀ o, live (s' o) = true → (s' o = s o ∧ β' o = β o ∧ ν' o = ν o ∧ ∀ b, β o = some b → w'.heap[b]? = w.heap[b]?) ∨ OR P (okAt X s' β' w') w' s' β' ν' o (s' o))
    (hslot : ∀ t, t < 10000 → (s' t = s t ∧ a'.tmps.getD t undef = a.tmps.getD t undef) ∨ VR P (okAt X s' β' w') w' s' β' ν' (s' t) [a'.tmps.getD t undef])
    (hkeys : ∀ t, t < 10000 → ver (s' t) = none) (htmps : a'.tmps.size = a.tmps.size) (hdef : a'.defers = a.defers) (hanch : ver (s' 29999) = none → s' 29999 = s 29999 ∨ s' 29999 = .any) : RelB P X s' a' w' β' ν' where
  os := hos.trans h.os
  tape := htape.trans h.tape
  output := hout.1.trans h.output
  drawn := Nat.le_trans h.drawn hout.2
  size := Nat.le_trans h.size hsize
  frame := fun b hb hn => (hframe b hb hn).trans (h.frame b hb hn)
  own := fun o b hl hb => by
    rcases hown o b hl hb with ⟨h1, h2⟩ | h1
    · exact ⟨(h.own o b h1 h2).1, Nat.lt_of_lt_of_le (h.own o b h1 h2).2 hsize⟩
    · exact h1
  inj := hinj
  obj := fun o => by
    cases hl : live (s' o) with
    | false => exact OR_dead hl
    | true =>
      rcases hobj o hl with ⟨h1, h2, h3, h4⟩ | h1
      · rw [h1]
        exact OR_mono hok hsize hgoes h2 h3 h4 _ (h.obj o)
      · exact h1
  slot := fun t ht => by
    rcases hslot t ht with ⟨h1, h2⟩ | h1
    · rw [h1, h2]
      exact VR_mono hok hsize hgoes _ (h.slot t ht)
    · exact h1
  keys := hkeys
  tmps := htmps.trans h.tmps
  defers := hdef.trans h.defers
  kept := fun b o hb => ⟨(hok b (h.kept b o hb).1).1, (hok b (h.kept b o hb).1).2.trans (h.kept b o hb).2⟩
  anch := fun hv => by
    rcases hanch hv with h1 | h1
    · rw [h1]
      exact VR_mono hok hsize hgoes _ (h.anch (by rw [← h1]; exact hv))
    · rw [h1]
      exact ⟨_, rfl⟩

theorem put_get_same {a : Act} {d : Nat} (v : Value) (h : d < a.tmps.size) : (a.put (some d) v).tmps.getD d undef = v := by
  simp [Act.put, Array.getD_eq_getD_getElem?, h]
theorem put_get_ne (a : Act) {d t : Nat} (v : Value) (h : t ≠ d) : (a.put (some d) v).tmps.getD t undef = a.tmps.getD t undef := by
  simp only [Act.put, Array.getD_eq_getD_getElem?]
  rw [Array.getElem?_setIfInBounds, if_neg (fun e => h e.symm)]

theorem put_size (a : Act) (d : Option Nat) (v : Value) : (a.put d v).tmps.size = a.tmps.size := by cases d <;> simp [Act.put]
theorem put_defers (a : Act) (d : Option Nat) (v : Value) : (a.put d v).defers = a.defers := by cases d <;> simp [Act.put]

theorem upd_ver {s : St} {d : Nat} {x : AV} (hx : ver x = none) (hd : ver (s d) = none) (o : Nat) : ver (upd s d x o) = ver (s o) ∧ live (upd s d x o) = live (s o) := by
  by_cases e : o = d
  · subst e; rw [upd_same]; exact ⟨by rw [hx, hd], by rw [live_ver hx, live_ver hd]⟩
  · rw [upd_ne s x e]; exact ⟨rfl, rfl⟩

theorem Goes.upd {s : St} {d : Nat} {x : AV} (hx : ver x = none) (hd : ver (s d) = none) (β : Nat → Option Nat) (ν : Nat → Value) : Goes s (upd s d x) β β ν ν := by
  intro o k hk
  obtain ⟨h1, h2⟩ := upd_ver hx hd o
  exact ⟨k, by rw [h1]; exact hk, Nat.le_refl _, fun _ hl => ⟨by rw [← h2]; exact hl, rfl, rfl⟩⟩

theorem okAt_upd {X : Cx} {s : St} {d : Nat} {x : AV} (hx : ver x = none) (hd : ver (s d) = none) {β : Nat → Option Nat} {w : World} {b : Nat} : okAt X (upd s d x) β w b ↔ okAt X s β w b := by
  unfold okAt
  simp only [(upd_ver hx hd _).2]
theorem RelB.put {P : Program} {X : Cx} {s : St} {a : Act} {w : World} {β : Nat → Option Nat} {ν : Nat → Value} (h : RelB P X s a w β ν) {d : Nat} {x : AV} {v : Value} (hn : d < X.n) (hd : d < 10000) (hx : ver x = none)
    (hv : VR P (okAt X s β w) w s β ν x [v]) : RelB P X (upd s d x) (a.put (some d) v) w β ν := by
  have hd' := h.keys d hd
  have hgo := Goes.upd (s := s) hx hd' β ν
  have hok : ∀ b, okAt X s β w b → okAt X (upd s d x) β w b ∧ w.heap[b]? = w.heap[b]? := fun b hb => ⟨(okAt_upd hx hd').2 hb, rfl⟩
  refine h.move rfl rfl ⟨rfl, Nat.le_refl _⟩ (Nat.le_refl _) (fun _ _ _ => rfl) hok hgo ?_ ?_ ?_ ?_ ?_ ?_ ?_ (fun _ => .inl (upd_ne s x (by omega)))
  · intro o b hl hb; rw [(upd_ver hx hd' o).2] at hl; exact .inl ⟨hl, hb⟩
  · intro o o' b hl hl' hb hb'
    rw [(upd_ver hx hd' o).2] at hl
    rw [(upd_ver hx hd' o').2] at hl'
    exact h.inj o o' b hl hl' hb hb'
  · intro o hl
    left
    have hne : o ≠ d := by rintro rfl; rw [upd_same, live_ver hx] at hl; cases hl
    exact ⟨upd_ne s x hne, rfl, rfl, fun _ _ => rfl⟩
  · intro t _
    by_cases e : t = d
    · subst e; right; rw [upd_same, put_get_same v (by rw [h.tmps]; exact hn)]; exact VR_mono hok (Nat.le_refl _) hgo _ hv
    · left; exact ⟨upd_ne s x e, put_get_ne a v e⟩
  · intro t ht; rw [(upd_ver hx hd' t).1]; exact h.keys t ht
  · rw [put_size]
  · rw [put_defers]

def evC : Value → AV
  | .int k n => .val (.int k n)
  | .bool b => .val (.bool b)
  | .string b => .val (.str b)
  | .slice none 0 0 => .emp
  | _ => .any
def ev (s : St) : Operand → AV
  | .tmp t => bif Nat.blt t 10000 then s t else .any
  | .const v => evC v
  | .func f => .clo f .cnil
  | .global _ => .any

theorem RelB.eval {P : Program} {X : Cx} {s : St} {a : Act} {w : World} {β : Nat → Option Nat} {ν : Nat → Value} (h : RelB P X s a w β ν) (x : Operand) :
    VR P (okAt X s β w) w s β ν (ev s x) [a.eval x] := by
  cases x with
  | tmp t =>
    simp only [Act.eval, ev]
    cases hb : Nat.blt t 10000
    · exact ⟨_, rfl⟩
    · exact h.slot t (by simp [Nat.blt] at hb; omega)
  | const v =>
    simp only [Act.eval, ev]
    unfold evC
    split <;> simp_all [VR, RV, R, vAgg, D.isAgg, Value.cells]
  | func f => simp [Act.eval, ev, VR]
  | global g => simp [Act.eval, ev, VR]

end Go.Um

/- Steps of operations with their footprints; a region walked in the text's order serves every order; code, loops, contracts. No condition. -/






namespace Go.Um
open Go Go.RowKit

def opWp (P : Program) (ops : Array Oper) (Q : Exit → Act → World → Prop) (o : Oper) (K : Act → World → Prop) (a : Act) (w : World) : Prop :=
  if Region.wanted o (yielded ops a.tmps) then o.wp P a w K Q ∨ (o.asks P a w ∧ LetsOut Q) else K (a.put o.dst undef) w

theorem opWp_mono {P : Program} {ops : Array Oper} {Q : Exit → Act → World → Prop} {o : Oper} {K K' : Act → World → Prop} {a : Act} {w : World} (h : ∀ a w, K a w → K' a w)
    (hh : opWp P ops Q o K a w) : opWp P ops Q o K' a w := by
  unfold opWp at *
  split
  · rename_i hw; simp only [hw, if_true] at hh; (rcases hh with hh | hh); exact .inl (Oper.wp_mono h hh); exact .inr hh
  · rename_i hw; simp only [hw] at hh; exact h _ _ hh

def ovr (t : St) (W : List Nat) (s' : St) : St := fun k => if k ∈ W then s' k else t k

theorem ovr_self {s s' : St} {W : List Nat} (h : ∀ k, k ∉ W → s' k = s k) : ovr s W s' = s' := by
  funext k
  unfold ovr
  split
  · rfl
  · rename_i hk; exact (h k hk).symm
def LStep (P : Program) (n : Nat) (ops : Array Oper) (o : Oper) (F : List Nat × List Nat) (s s' : St) : Prop :=
  (∀ k, k ∉ F.2 → s' k = s k) ∧
  ∀ (X : Cx) (t : St) (a : Act) (w : World), X.n = n → (∀ k ∈ F.1, t k = s k) → Rel P X t a w → ∀ Q, opWp P ops Q o (fun a' w' => Rel P X (ovr t F.2 s') a' w') a w
def Der (P : Program) (n : Nat) (ops : Array Oper) : List (Nat × (List Nat × List Nat)) → St → St → Prop
  | [], s, s' => s' = s
  | (i, F) :: L, s, s' => ∃ o s1, ops[i]? = some o ∧ LStep P n ops o F s s1 ∧ Der P n ops L s1 s'

def clash (f g : List Nat × List Nat) : Bool := f.2.any (fun k => g.1.contains k || g.2.contains k) || g.2.any (fun k => f.1.contains k)

theorem clash_no {f g : List Nat × List Nat} (h : clash f g = false) : (∀ k, k ∈ f.2 → k ∉ g.1 ∧ k ∉ g.2) ∧ (∀ k, k ∈ g.2 → k ∉ f.1 ∧ k ∉ f.2) := by
  simp only [clash, Bool.or_eq_false_iff, List.any_eq_false, Bool.or_eq_true, List.contains_eq_mem, decide_eq_true_eq, not_or] at h
  refine ⟨fun k hk => h.1 k hk, fun k hk => ⟨h.2 k hk, fun hk' => (h.1 k hk').2 hk⟩⟩

section
variable {P : Program} {n : Nat} {ops : Array Oper}

theorem LStep.agree {o : Oper} {F : List Nat × List Nat} {s s' t : St} (h : LStep P n ops o F s s') (ht : ∀ k ∈ F.1, t k = s k) : LStep P n ops o F t (ovr t F.2 s') := by
  refine ⟨fun k hk => by simp [ovr, hk], fun X u a w hX hu hr Q => ?_⟩
  refine opWp_mono (fun a' w' h' => ?_) (h.2 X u a w hX (fun k hk => (hu k hk).trans (ht k hk)) hr Q)
  have : ovr u F.2 (ovr t F.2 s') = ovr u F.2 s' := by funext k; simp only [ovr]; split <;> rfl
  rw [this]
  exact h'

theorem LStep.swap {o o' : Oper} {F G : List Nat × List Nat} {s s1 s2 : St} (h1 : LStep P n ops o F s s1) (h2 : LStep P n ops o' G s1 s2) (hc : clash F G = false) :
    ∃ s1', LStep P n ops o' G s s1' ∧ LStep P n ops o F s1' s2 := by
  obtain ⟨c1, c2⟩ := clash_no hc
  have e1 : ∀ k ∈ G.1, s k = s1 k := fun k hk => (h1.1 k (fun hk' => (c1 k hk').1 hk)).symm
  have hg := h2.agree e1
  refine ⟨ovr s G.2 s2, hg, ?_⟩
  have e2 : ∀ k ∈ F.1, (ovr s G.2 s2) k = s k := fun k hk => by
    have : k ∉ G.2 := fun hk' => (c2 k hk').1 hk
    simp [ovr, this]
  have hf := h1.agree e2
  have : ovr (ovr s G.2 s2) F.2 s1 = s2 := by
    funext k
    simp only [ovr]
    split
    · rename_i hk; exact (h2.1 k (c1 k hk).2).symm
    · rename_i hk
      split
      · rfl
      · rename_i hk'; rw [h2.1 k hk', h1.1 k hk]
  rw [this] at hf
  exact hf

theorem Der.pull {i : Nat} {F : List Nat × List Nat} {B : List (Nat × (List Nat × List Nat))} : ∀ (A : List (Nat × (List Nat × List Nat))) {s s' : St}, Der P n ops (A ++ (i, F) :: B) s s' →
    (∀ p ∈ A, clash p.2 F = false) → ∃ o s1, ops[i]? = some o ∧ LStep P n ops o F s s1 ∧ Der P n ops (A ++ B) s1 s'
  | [], s, s', h, _ => h
  | (j, G) :: A, s, s', h, hc => by
    obtain ⟨oj, s1, hj, h1, h2⟩ := h
    obtain ⟨o, s2, ho, h3, h4⟩ := Der.pull A h2 (fun p hp => hc p (List.mem_cons_of_mem _ hp))
    obtain ⟨s1', h5, h6⟩ := h1.swap h3 (hc (j, G) (List.mem_cons_self ..))
    exact ⟨o, s1', ho, h5, oj, s2, hj, h6, h4⟩
def reach (ops : Array Oper) : Nat → Nat → Nat → Bool
  | 0, _, _ => false
  | f + 1, q, i => ((ops[q]?).map fun o => o.after.any fun e => Region.binds .any e && e.on == i).getD false || ((ops[q]?).map fun o => o.after.any fun e => Region.binds .any e && reach ops f e.on i).getD false

theorem reach_listed {listed : Array Bool} {i : Nat} (hcl : ∀ q o, ops[q]? = some o → listed.getD q false = true → ∀ e ∈ o.after, Region.binds .any e = true → listed.getD e.on false = true) :
    ∀ (f q : Nat) (o : Oper), ops[q]? = some o → (∀ e ∈ o.after, Region.binds .any e = true → listed.getD e.on false = true) → reach ops f q i = true → listed.getD i false = true
  | 0, _, _, _, _, h => by cases h
  | f + 1, q, o, ho, hq, h => by
    unfold reach at h
    rw [ho] at h
    simp only [Option.map_some, Option.getD_some, Bool.or_eq_true] at h
    rcases h with h | h
    · obtain ⟨e, hem, h2⟩ := Array.any_eq_true'.1 h
      simp only [Bool.and_eq_true, beq_iff_eq] at h2
      rw [← h2.2]
      exact hq e hem h2.1
    · obtain ⟨e, hem, h2⟩ := Array.any_eq_true'.1 h
      simp only [Bool.and_eq_true] at h2
      have h3 := hq e hem h2.1
      cases f with
      | zero => cases h2.2
      | succ f =>
        cases ho' : ops[e.on]? with
        | none => have h4 := h2.2; unfold reach at h4; rw [ho'] at h4; cases h4
        | some o' => exact reach_listed hcl (f + 1) e.on o' ho' (hcl e.on o' ho' h3) h2.2
def drawOk (ops : Array Oper) : List (Nat × (List Nat × List Nat)) → Bool
  | [] => true
  | (i, F) :: L => drawOk ops L && L.all fun q => (i < q.1) && (!clash F q.2 || reach ops 3 q.1 i)

def edgesOk (ops : Array Oper) : Bool := (List.range ops.size).all fun i => ((ops[i]?).map fun o => o.after.all fun e => !Region.binds .any e || decide (e.on < i)).getD true

theorem drawOk_erase {i : Nat} {F : List Nat × List Nat} {B : List (Nat × (List Nat × List Nat))} : ∀ (A : List (Nat × (List Nat × List Nat))), drawOk ops (A ++ (i, F) :: B) = true → drawOk ops (A ++ B) = true
  | [], h => by simp only [List.nil_append, drawOk, Bool.and_eq_true] at h ⊢; exact h.1
  | (j, G) :: A, h => by
    simp only [List.cons_append, drawOk, Bool.and_eq_true, List.all_eq_true] at h ⊢
    refine ⟨drawOk_erase A h.1, fun q hq => h.2 q ?_⟩
    simp only [List.mem_append, List.mem_cons] at hq ⊢
    rcases hq with hq | hq
    · exact .inl hq
    · exact .inr (.inr hq)

theorem drawOk_ahead {i : Nat} {F : List Nat × List Nat} {B : List (Nat × (List Nat × List Nat))} : ∀ (A : List (Nat × (List Nat × List Nat))), drawOk ops (A ++ (i, F) :: B) = true →
    ∀ p ∈ A, p.1 < i ∧ (clash p.2 F = true → reach ops 3 i p.1 = true)
  | [], _, p, hp => by cases hp
  | (j, G) :: A, h, p, hp => by
    simp only [List.cons_append, drawOk, Bool.and_eq_true, List.all_eq_true] at h
    rcases List.mem_cons.1 hp with rfl | hp
    · have := h.2 (i, F) (by simp)
      simp only [decide_eq_true_eq, Bool.or_eq_true, Bool.not_eq_true'] at this
      refine ⟨this.1, fun hc => ?_⟩
      rcases this.2 with h' | h'
      · rw [hc] at h'; cases h'
      · exact h'
    · exact drawOk_ahead A h.1 p hp

theorem drawOk_tail {B : List (Nat × (List Nat × List Nat))} : ∀ (A : List (Nat × (List Nat × List Nat))), drawOk ops (A ++ B) = true → drawOk ops B = true
  | [], h => h
  | (j, G) :: A, h => by simp only [List.cons_append, drawOk, Bool.and_eq_true] at h; exact drawOk_tail A h.1
def wd (r : Option Nat) : Fence := { Fence.wide with round := r }

theorem callsIn_wd {r : Option Nat} {k : Nat} {P : Program} {f : FuncId} {args : Array Value} {w : World} {R : Ending → World → Prop} (h : Calls P f args w R) : CallsIn (wd r) k P f args w R := by
  have := (callsIn_wide (n := k)).2 h
  exact ⟨trivial, this.2⟩

def notDefer (o : Oper) : Bool :=
  match o.op with
  | .defer _ => false
  | _ => true

theorem semAt_wd {r : Option Nat} {o : Oper} (h : notDefer o = true) (ev : Operand → Value) : o.semAt r ev = execOp ev o :=
  Oper.semAt_eq r ev o (fun c e => by unfold notDefer at h; rw [e] at h; cases h)

theorem rowsIn_wd {r : Option Nat} {k : Nat} {P : Program} {row : String} {args : Array Value} {w : World} {R : Value → World → Prop} (h : Rows P row args w R) : RowsIn (wd r) k P row args w R := by
  intro c cs _
  obtain ⟨v, w', h1, h2⟩ := h c cs
  exact ⟨v, w', h1, stepsIn_wide.2 h2⟩

theorem wpIn_of_wp {r : Option Nat} {k : Nat} {P : Program} {o : Oper} {a : Act} {w : World} {K : Act → World → Prop} (Q : Exit → Act → World → Prop) (hd : notDefer o = true) (h : o.wp P a w K (fun _ _ _ => False)) : o.wpIn (wd r) k P a w K Q := by
  refine ⟨fun _ _ => trivial, ?_⟩
  have e : (wd r).round = r := rfl
  rw [e, semAt_wd hd]
  unfold Oper.wp at h
  generalize (execOp a.eval o).run P w = x at h
  have hdp : (wd r).depth.isSome = true → 1 ≤ k := fun h => by cases h
  cases x with
  | ok x w' =>
    cases x with
    | enter f args =>
      refine ⟨hdp, callsIn_wd (Calls.mono h ?_)⟩
      intro e w'' he
      cases e with
      | returned v => exact he
      | panicked c => exact he.elim
      | outgrown => obtain ⟨_, _, h⟩ := he; exact h.elim
    | row rw args => exact ⟨hdp, rowsIn_wd h⟩
    | value v => exact h
    | skip => exact h
    | defer d => exact h
    | _ => exact h.elim
  | halt x w' =>
    cases x <;> exact h.elim

theorem wpOpIn_of {r : Option Nat} {P : Program} {ops : Array Oper} {i : Nat} {o : Oper} (Q : Exit → Act → World → Prop) {K : Act → World → Prop} {a : Act} {w : World} (ho : ops[i]? = some o) (hd : notDefer o = true) (h : ∀ Q, opWp P ops Q o K a w) : wpOpIn (wd r) 0 P ops Q i K a w := by
  have h := h (fun _ _ _ => False)
  unfold wpOpIn
  unfold opWp at h
  rw [ho]
  simp only
  split
  · rename_i hw
    simp only [hw, if_true] at h
    rcases h with h | ⟨_, _, _, h⟩
    · exact wpIn_of_wp Q hd h
    · exact h.elim
  · rename_i hw
    simp only [hw] at h
    exact ⟨fun _ _ => trivial, h⟩

def noDef (ops : Array Oper) : Bool := ops.all notDefer

theorem noDef_at {ops : Array Oper} {i : Nat} {o : Oper} (h : noDef ops = true) (ho : ops[i]? = some o) : notDefer o = true := by
  obtain ⟨hi, e⟩ := Array.getElem?_eq_some_iff.1 ho
  rw [← e]
  exact Array.all_eq_true.1 h i hi

theorem any_of_der {r : Option Nat} {X : Cx} (hX : X.n = n) {Q : Exit → Act → World → Prop} {s' : St} (hQ : ∀ a w, Rel P X s' a w → Q .normal a w) (he : edgesOk ops = true) (hnd : noDef ops = true) :
    ∀ (fuel : Nat) (L : List (Nat × (List Nat × List Nat))) (listed : Array Bool) (s : St) (a : Act) (w : World), L.length = fuel → listed.size = ops.size →
      (∀ i, i ∈ L.map (·.1) ↔ i < ops.size ∧ listed.getD i true = false) → (∀ q o, ops[q]? = some o → listed.getD q false = true → ∀ e ∈ o.after, Region.binds .any e = true → listed.getD e.on false = true) → drawOk ops L = true → Der P n ops L s s' → Rel P X s a w → wpAnyIn (wd r) 0 P .any ops Q fuel listed a w := by
  intro fuel
  induction fuel with
  | zero =>
    intro L listed s a w hl hsz hiff _ _ hd hr
    obtain rfl : L = [] := List.eq_nil_of_length_eq_zero hl
    simp only [Der] at hd
    subst hd
    refine ⟨?_, hQ a w hr⟩
    apply List.eq_nil_iff_forall_not_mem.2
    intro i hi
    obtain ⟨h1, o, ho, _⟩ := (mem_ready.1 hi)
    have : i ∈ ([] : List (Nat × (List Nat × List Nat))).map (·.1) := (hiff i).2 ⟨(Array.getElem?_eq_some_iff.1 ho).1, h1⟩
    simp at this
  | succ fuel ih =>
    intro L listed s a w hl hsz hiff hcl hok hd hr
    constructor
    · intro hnil
      exfalso
      match L, hl with
      | (i, F) :: L', _ =>
        have hi := (hiff i).1 (by simp)
        have : i ∈ Region.ready .any ops listed := by
          rw [mem_ready]
          obtain ⟨o, _, ho, _⟩ := hd
          refine ⟨hi.2, o, ho, fun e hem hb => ?_⟩
          have hlt : e.on < i := by
            simp only [edgesOk, List.all_eq_true, List.mem_range] at he
            have := he i hi.1
            rw [ho] at this
            simp only [Option.map_some, Option.getD_some] at this
            rw [Array.all_eq_true_iff_forall_mem] at this
            have := this e hem
            simp [hb] at this
            exact this
          cases hg : listed.getD e.on true with
          | true =>
            have hlt' : e.on < listed.size := by rw [hsz]; omega
            simpa [Array.getD, hlt'] using hg
          | false =>
            have hin := (hiff e.on).2 ⟨by omega, hg⟩
            simp only [List.map_cons, List.mem_cons, List.mem_map] at hin
            rcases hin with hin | ⟨q, hq, hqe⟩
            · omega
            · simp only [drawOk, Bool.and_eq_true, List.all_eq_true] at hok
              have := (hok.2 q hq).1
              simp at this
              omega
        rw [hnil] at this
        cases this
    · intro i hi
      obtain ⟨hi2, oi, hoi, hi3⟩ := mem_ready.1 hi
      have hi1 := (Array.getElem?_eq_some_iff.1 hoi).1
      have hmem := (hiff i).2 ⟨hi1, hi2⟩
      rw [List.mem_map] at hmem
      obtain ⟨⟨i', F⟩, hq, hqe⟩ := hmem
      dsimp only at hqe
      subst hqe
      obtain ⟨A, B, rfl⟩ := List.append_of_mem hq
      have hah := drawOk_ahead A hok
      have hnc : ∀ p ∈ A, clash p.2 F = false := by
        intro p hp
        cases hc : clash p.2 F with
        | false => rfl
        | true =>
          exfalso
          have h1 := (hah p hp).2 hc
          have h3 := reach_listed hcl 3 i' oi hoi hi3 h1
          have h4 := (hiff p.1).1 (by simp only [List.map_append, List.mem_append, List.mem_map]; exact .inl ⟨p, hp, rfl⟩)
          have h5 : p.1 < listed.size := by rw [hsz]; exact h4.1
          have h6 := h4.2
          simp [Array.getD, h5] at h6 h3
          rw [h6] at h3
          cases h3
      obtain ⟨o, s1, ho, hst, hder⟩ := hd.pull A hnc
      have hst' := fun Q => hst.2 X s a w hX (fun _ _ => rfl) hr Q
      rw [ovr_self hst.1] at hst'
      have hwp : wpOpIn (wd r) 0 P ops Q i' (fun a' w' => Rel P X s1 a' w') a w := wpOpIn_of Q ho (noDef_at hnd ho) hst'
      refine wpOpIn_mono (fun a' w' hr' => ?_) hwp
      have hcl' : ∀ q o, ops[q]? = some o → (listed.setIfInBounds i' true).getD q false = true → ∀ e ∈ o.after, Region.binds .any e = true → (listed.setIfInBounds i' true).getD e.on false = true := by
        have up : ∀ k, listed.getD k false = true → (listed.setIfInBounds i' true).getD k false = true := by
          intro k hk
          simp only [Array.getD_eq_getD_getElem?, Array.getElem?_setIfInBounds] at hk ⊢
          split
          · simp [hsz, hi1]
          · exact hk
        intro q o hq9 hlq e hem hb
        by_cases e0 : q = i'
        · subst e0
          rw [hoi] at hq9
          cases hq9
          exact up _ (hi3 e hem hb)
        · refine up _ (hcl q o hq9 ?_ e hem hb)
          simp only [Array.getD_eq_getD_getElem?] at hlq ⊢
          rw [Array.getElem?_setIfInBounds, if_neg (fun e' => e0 e'.symm)] at hlq
          exact hlq
      refine ih (A ++ B) _ s1 a' w' (by simp at hl ⊢; omega) (by simp [hsz]) (fun j => ?_) hcl' (drawOk_erase A hok) hder hr'
      have hj := hiff j
      have hbi : ∀ p ∈ B, i' < p.1 := by
        have := drawOk_tail A hok
        simp only [drawOk, Bool.and_eq_true, List.all_eq_true] at this
        intro p hp
        have := (this.2 p hp).1
        simpa using this
      have hset : (listed.setIfInBounds i' true).getD j true = if j = i' then true else listed.getD j true := by
        by_cases e : j = i'
        · subst e; simp [Array.getD_eq_getD_getElem?, hsz, hi1]
        · simp only [e, if_false, Array.getD_eq_getD_getElem?]
          rw [Array.getElem?_setIfInBounds, if_neg (fun e' => e e'.symm)]
      rw [hset]
      simp only [List.map_append, List.map_cons, List.mem_append, List.mem_cons, List.mem_map] at hj ⊢
      by_cases e : j = i'
      · subst e
        simp only [if_true, Bool.true_eq_false, and_false, iff_false, not_or]
        refine ⟨?_, ?_⟩
        · rintro ⟨p, hp, hpe⟩; have := (hah p hp).1; omega
        · rintro ⟨p, hp, hpe⟩; have := hbi p hp; omega
      · simp only [e, if_false, false_or] at hj ⊢
        exact hj
theorem wp_draw {r : Option Nat} {X : Cx} (hX : X.n = n) {Q : Exit → Act → World → Prop} {id : Nat} {s s' : St} {a : Act} {w : World} (hm : P.follows .mixedOrders = true) {L : List (Nat × (List Nat × List Nat))}
    (hL : L.map (·.1) = List.range ops.size) (he : edgesOk ops = true) (hnd : noDef ops = true) (hok : drawOk ops L = true) (hd : Der P n ops L s s') (hr : Rel P X s a w)
    (hQ : ∀ a w, Rel P X s' a w → Q .normal a w) : (Code.region id ops true).wpIn (wd r) 0 P Q a w := by
  refine wpIn_region_any hm (any_of_der hX hQ he hnd _ L _ s a _ ?_ (by simp) ?_ (fun q o _ hq => absurd hq (by simp [Array.getD_eq_getD_getElem?, Array.getElem?_replicate]; split <;> simp)) hok hd ?_)
  · have := congrArg List.length hL; simpa using this
  · intro i
    rw [hL, List.mem_range]
    constructor
    · intro h; exact ⟨h, by simp [Array.getD, h]⟩
    · intro h; exact h.1
  · obtain ⟨β, ν, h⟩ := hr
    exact ⟨β, ν, h.move rfl rfl ⟨rfl, Nat.le_succ _⟩ (Nat.le_refl _) (fun _ _ _ => rfl) (fun b hb => ⟨hb, rfl⟩) (Goes.refl _ _ _) (fun o b hl hb => .inl ⟨hl, hb⟩) h.inj
      (fun o _ => .inl ⟨rfl, rfl, rfl, fun _ _ => rfl⟩) (fun t _ => .inl ⟨rfl, rfl⟩) h.keys rfl rfl (fun _ => .inl rfl)⟩

theorem wpOps_of_der {r : Option Nat} {X : Cx} (hX : X.n = n) (hnd : noDef ops = true) {Q : Exit → Act → World → Prop} : ∀ (L : List (Nat × (List Nat × List Nat))) {s s' : St} (a : Act) (w : World), Der P n ops L s s' → Rel P X s a w →
    (∀ a w, Rel P X s' a w → Q .normal a w) → wpOpsIn (wd r) 0 P ops Q (L.map (·.1)) a w
  | [], s, s', a, w, hd, hr, hQ => by simp only [Der] at hd; subst hd; exact hQ a w hr
  | (i, F) :: L, s, s', a, w, hd, hr, hQ => by
    obtain ⟨o, s1, ho, hst, hder⟩ := hd
    rw [List.map_cons, wpOpsIn_cons]
    have hst' := fun Q => hst.2 X s a w hX (fun _ _ => rfl) hr Q
    rw [ovr_self hst.1] at hst'
    have hwp : wpOpIn (wd r) 0 P ops Q i (fun a' w' => Rel P X s1 a' w') a w := wpOpIn_of Q ho (noDef_at hnd ho) hst'
    exact wpOpIn_mono (fun a' w' hr' => wpOps_of_der hX hnd L a' w' hder hr' hQ) hwp

theorem wp_plain {r : Option Nat} {X : Cx} (hX : X.n = n) (hnd : noDef ops = true) {Q : Exit → Act → World → Prop} {id : Nat} {s s' : St} {a : Act} {w : World} {L : List (Nat × (List Nat × List Nat))}
    (hL : L.map (·.1) = List.range ops.size) (hd : Der P n ops L s s') (hr : Rel P X s a w) (hQ : ∀ a w, Rel P X s' a w → Q .normal a w) : (Code.region id ops false).wpIn (wd r) 0 P Q a w := by
  refine wpIn_region ?_
  rw [← hL]
  exact wpOps_of_der hX hnd L a w hd hr hQ
def DerL (P : Program) (n : Nat) (ops : Array Oper) : Nat → List Oper → List (Nat × (List Nat × List Nat)) → St → (St → Prop) → Prop
  | _, [], L, s, K => L = [] ∧ K s
  | i, o :: l, L, s, K => ∃ F L' s1, L = (i, F) :: L' ∧ LStep P n ops o F s s1 ∧ DerL P n ops (i + 1) l L' s1 K

theorem DerL.der : ∀ (l : List Oper) (i : Nat) {L : List (Nat × (List Nat × List Nat))} {s : St} {K : St → Prop}, (∀ j, l[j]? = ops[i + j]?) → DerL P n ops i l L s K →
    L.map (·.1) = List.range' i l.length ∧ ∃ s', K s' ∧ Der P n ops L s s'
  | [], i, L, s, K, _, h => by obtain ⟨rfl, hk⟩ := h; exact ⟨rfl, s, hk, rfl⟩
  | o :: l, i, L, s, K, hl, h => by
    obtain ⟨F, L', s1, rfl, hst, hd⟩ := h
    obtain ⟨h1, s', hk, h2⟩ := DerL.der l (i + 1) (fun j => by have := hl (j + 1); simpa [Nat.add_assoc, Nat.add_comm 1 j] using this) hd
    refine ⟨by rw [List.map_cons, h1, List.length_cons, List.range'_succ], s', hk, o, s1, by simpa using (hl 0).symm, hst, h2⟩

def mk (D : Nat) : Deferred := { target := .collected D, args := #[] }
structure Ext (X X' : Cx) : Prop where
  n : X'.n = X.n
  w0 : X'.w0 = X.w0
  ok0 : X'.ok0 = X.ok0
  bor : X'.bor = X.bor
  av : X'.av = X.av
  kp : ∀ b o, X.kp b = some o → X'.kp b = some o
  defs : ∃ Ds : List Nat, X'.defs = Ds.map mk ++ X.defs ∧ Ds.Nodup ∧ ∀ D ∈ Ds, X.kp D = none ∧ X'.kp D = some (.deferred (some [])) ∧ X.w0.heap.size ≤ D

theorem Ext.refl (X : Cx) : Ext X X := ⟨rfl, rfl, rfl, rfl, rfl, fun _ _ h => h, [], rfl, List.nodup_nil, fun D h => by cases h⟩
theorem Ext.trans {X X' X'' : Cx} (h : Ext X X') (k : Ext X' X'') : Ext X X'' := by
  refine ⟨k.n.trans h.n, k.w0.trans h.w0, k.ok0.trans h.ok0, k.bor.trans h.bor, k.av.trans h.av, fun b o e => k.kp b o (h.kp b o e), ?_⟩
  obtain ⟨Ds, h1, h2, h3⟩ := h.defs
  obtain ⟨Es, k1, k2, k3⟩ := k.defs
  refine ⟨Es ++ Ds, by rw [k1, h1, List.map_append, List.append_assoc], ?_, ?_⟩
  · rw [List.nodup_append]
    refine ⟨k2, h2, fun a ha b hb e => ?_⟩
    subst e
    have := (k3 a ha).1
    rw [(h3 a hb).2.1] at this
    cases this
  · intro D hD
    rcases List.mem_append.1 hD with hD | hD
    · obtain ⟨g1, g2, g3⟩ := k3 D hD
      refine ⟨?_, g2, by rw [h.w0] at g3; exact g3⟩
      cases e : X.kp D with
      | none => rfl
      | some o => rw [h.kp D o e] at g1; cases g1
    · obtain ⟨g1, g2, g3⟩ := h3 D hD
      exact ⟨g1, k.kp _ _ g2, g3⟩
def Aft (P : Program) (X : Cx) (Q : Exit → St → Prop) (e : Exit) (a' : Act) (w' : World) : Prop := ∃ s' X', Ext X X' ∧ Q e s' ∧ Rel P X' s' a' w'
structure Nm where
  n : Nat
  top : Bool
def AW (P : Program) (m : Nm) (c : Code) (s : St) (Q : Exit → St → Prop) : Prop :=
  ∀ (r : Option Nat) (X : Cx) (a : Act) (w : World), (X.n = m.n ∧ (m.top = true → r = none)) → Rel P X s a w → c.wpIn (wd r) 0 P (Aft P X Q) a w

def thn (K : St → Prop) (Q : Exit → St → Prop) : Exit → St → Prop
  | .normal, s => K s
  | e, s => Q e s

def inB (id : Nat) (Q : Exit → St → Prop) : Exit → St → Prop
  | .exit id', s => bif Nat.beq id' id then Q .normal s else Q (.exit id') s
  | e, s => Q e s

theorem aft_in {X X' : Cx} (hx : Ext X X') {Q : Exit → St → Prop} {e : Exit} {a : Act} {w : World} (h : Aft P X' Q e a w) : Aft P X Q e a w := by
  obtain ⟨s', X2, h1, h2, h3⟩ := h
  exact ⟨s', X2, hx.trans h1, h2, h3⟩

variable {m : Nm}

theorem AW.skip {s : St} {Q : Exit → St → Prop} (h : Q .normal s) : AW P m .skip s Q := fun _ X _ _ _ hr => wpIn_skip ⟨s, X, Ext.refl X, h, hr⟩
theorem AW.ret {s : St} {Q : Exit → St → Prop} (h : Q .ret s) : AW P m .ret s Q := fun _ X _ _ _ hr => wpIn_ret ⟨s, X, Ext.refl X, h, hr⟩
theorem AW.exit {s : St} {Q : Exit → St → Prop} {id : Nat} (h : Q (.exit id) s) : AW P m (.exit id) s Q := fun _ X _ _ _ hr => wpIn_exit ⟨s, X, Ext.refl X, h, hr⟩

theorem AW.seq {x y : Code} {s : St} {Q : Exit → St → Prop} (h : AW P m x s (thn (fun s' => AW P m y s' Q) Q)) : AW P m (.seq x y) s Q := by
  intro r X a w hX hr
  refine wpIn_seq (wpIn_mono (h r X a w hX hr) ?_)
  rintro e a' w' ⟨s', X', hx, hq, hr'⟩
  cases e with
  | normal => exact wpIn_mono (hq r X' a' w' ⟨hx.n.trans hX.1, hX.2⟩ hr') (fun _ _ _ h => aft_in hx h)
  | _ => exact ⟨s', X', hx, hq, hr'⟩

theorem AW.block {id : Nat} {c : Code} {s : St} {Q : Exit → St → Prop} (h : AW P m c s (inB id Q)) : AW P m (.block id c) s Q := by
  intro r X a w hX hr
  refine wpIn_block (wpIn_mono (h r X a w hX hr) ?_)
  rintro e a' w' ⟨s', X', hx, hq, hr'⟩
  cases e with
  | exit id' =>
    simp only [Exit.inBlock]
    by_cases he : id' = id
    · subst he
      simp only [inB, Nat.beq_refl, cond_true] at hq
      simp only [if_true]
      exact ⟨s', X', hx, hq, hr'⟩
    · have : Nat.beq id' id = false := by
        cases hb : Nat.beq id' id
        · rfl
        · exact absurd (Nat.eq_of_beq_eq_true hb) he
      simp only [inB, this, cond_false] at hq
      simp only [he, if_false]
      exact ⟨s', X', hx, hq, hr'⟩
  | _ => exact ⟨s', X', hx, hq, hr'⟩

theorem AW.cond {c : Operand} {x y : Code} {s : St} {Q : Exit → St → Prop} {t : Bool} (hc : ev s c = .val (.bool t)) (ht : t = true → AW P m x s Q) (hf : t = false → AW P m y s Q) : AW P m (.cond c x y) s Q := by
  intro r X a w hX hr
  obtain ⟨β, ν, h⟩ := hr
  have hv := h.eval c
  rw [hc] at hv
  obtain ⟨v, hv1, hv2, hv3⟩ := hv
  have : a.eval c = .bool t := by
    simp only [R] at hv3
    simp only [List.cons.injEq, and_true] at hv1
    subst hv1
    generalize a.eval c = u at *
    cases u <;> simp_all [Value.cells, vAgg, D.isAgg]
  refine wpIn_cond_split this (fun h1 => ht h1 r X a w hX ⟨β, ν, h⟩) (fun h1 => hf h1 r X a w hX ⟨β, ν, h⟩)

theorem AW.region {id : Nat} {l : List Oper} {s : St} {Q : Exit → St → Prop} {L : List (Nat × (List Nat × List Nat))} (h : DerL P m.n l.toArray 0 l L s (Q .normal)) (hnd : noDef l.toArray = true) : AW P m (.region id l.toArray false) s Q := by
  intro r X a w hX hr
  obtain ⟨h1, s', hk, hd⟩ := DerL.der l 0 (by simp) h
  exact wp_plain hX.1 hnd (by rw [h1, List.range_eq_range']; simp) hd hr (fun a w hr' => ⟨s', X, Ext.refl X, hk, hr'⟩)

theorem AW.draw {id : Nat} {l : List Oper} {s : St} {Q : Exit → St → Prop} {L : List (Nat × (List Nat × List Nat))} (hm : P.follows .mixedOrders = true) (h : DerL P m.n l.toArray 0 l L s (Q .normal))
    (he : edgesOk l.toArray = true) (hnd : noDef l.toArray = true) (hok : drawOk l.toArray L = true) : AW P m (.region id l.toArray true) s Q := by
  intro r X a w hX hr
  obtain ⟨h1, s', hk, hd⟩ := DerL.der l 0 (by simp) h
  exact wp_draw hX.1 hm (by rw [h1, List.range_eq_range']; simp) he hnd hok hd hr (fun a w hr' => ⟨s', X, Ext.refl X, hk, hr'⟩)
def Le (P : Program) (s s' : St) : Prop := ∀ (X : Cx) (a : Act) (w : World), Rel P X s a w → Rel P X s' a w

theorem AW.weak {c : Code} {s s' : St} {Q : Exit → St → Prop} (hs : Le P s s') (h : AW P m c s' Q) : AW P m c s Q := fun r X a w hX hr => h r X a w hX (hs X a w hr)
theorem AW.mono {c : Code} {s : St} {Q Q' : Exit → St → Prop} (h : AW P m c s Q) (hq : ∀ e s, Q e s → Q' e s) : AW P m c s Q' :=
  fun r X a w hX hr => wpIn_mono (h r X a w hX hr) (fun _ _ _ ⟨s', X', hx, h1, h2⟩ => ⟨s', X', hx, hq _ _ h1, h2⟩)

theorem AW.loop {α : Type} (I : α → Prop) (S : α → St) (μ : α → Nat) {c : Code} {s : St} {Q : Exit → St → Prop} (a0 : α) (h0 : I a0) (hs : Le P s (S a0))
    (round : ∀ x, I x → AW P m c (S x) (thn (fun s' => ∃ y, I y ∧ μ y < μ x ∧ Le P s' (S y)) Q)) : AW P m (.loop c) s Q := by
  intro r X a w hX hr
  refine wpIn_loop_ghost (fun q a w => ∃ x X', Ext X X' ∧ μ x = q ∧ I x ∧ Rel P X' (S x) a w) (μ a0) ⟨a0, X, Ext.refl X, rfl, h0, hs X a w hr⟩ ?_
  rintro q a w ⟨x, X', hx, rfl, hI, hr⟩
  refine wpIn_mono (round x hI r X' a w ⟨hx.n.trans hX.1, hX.2⟩ hr) ?_
  rintro e a' w' ⟨s', X2, hx2, hq, hr'⟩
  cases e with
  | normal =>
    obtain ⟨y, hy, hlt, hle⟩ := hq
    exact ⟨μ y, hlt, y, X2, hx.trans hx2, rfl, hy, hle X2 a' w' hr'⟩
  | _ => exact ⟨s', X2, hx.trans hx2, hq, hr'⟩

end
end Go.Um

/- Weakening of abstract states, contracts of functions, results. No condition. -/

namespace Go.Um
open Go Go.RowKit

def allEq (s : St) : List (Nat × AV) → Prop
  | [] => True
  | (k, x) :: l => s k = x ∧ allEq s l

theorem allEq_mem {s : St} : ∀ {l : List (Nat × AV)}, allEq s l → ∀ p ∈ l, s p.1 = p.2
  | [], _, p, hp => by cases hp
  | (k, x) :: l, h, p, hp => by
    rcases List.mem_cons.1 hp with rfl | hp
    · exact h.1
    · exact allEq_mem h.2 p hp

theorem ofL_cases {s : St} : ∀ {l : List (Nat × AV)}, allEq s l → ∀ k, (ofL l k = s k) ∨ (ofL l k = .any ∧ ∀ p ∈ l, p.1 ≠ k)
  | [], _, k => .inr ⟨rfl, fun p hp => by cases hp⟩
  | (j, x) :: l, h, k => by
    simp only [ofL]
    cases hb : Nat.beq k j
    · simp only [cond_false]
      rcases ofL_cases h.2 k with h' | ⟨h', h''⟩
      · exact .inl h'
      · refine .inr ⟨h', fun p hp => ?_⟩
        rcases List.mem_cons.1 hp with rfl | hp
        · rintro rfl; simp at hb
        · exact h'' p hp
    · have := Nat.eq_of_beq_eq_true hb
      subst this
      exact .inl (by simp only [cond_true]; exact h.1.symm)
def closedL (l : List (Nat × AV)) : Bool := l.all fun p => (ment p.2).all fun o => l.any fun q => Nat.beq q.1 o

theorem RelB.ofL {P : Program} {s : St} {l : List (Nat × AV)} (h : allEq s l) (hc : closedL l = true) {X : Cx} {a : Act} {w : World} {β : Nat → Option Nat} {ν : Nat → Value} (hr : RelB P X s a w β ν) : RelB P X (Um.ofL l) a w β ν := by
  have hkey : ∀ k x, Um.ofL l k = x → x ≠ .any → ∀ o ∈ ment x, Um.ofL l o = s o := by
    intro k x hx hne o ho
    have hin : ∃ p ∈ l, p.2 = x := by
      clear h hc
      induction l with
      | nil => simp [Um.ofL] at hx; exact absurd hx.symm hne
      | cons p l ih =>
        obtain ⟨j, y⟩ := p
        simp only [Um.ofL] at hx
        cases hb : Nat.beq k j
        · rw [hb] at hx
          obtain ⟨q, hq, e⟩ := ih hx
          exact ⟨q, List.mem_cons_of_mem _ hq, e⟩
        · rw [hb] at hx
          exact ⟨(j, y), List.mem_cons_self .., hx⟩
    obtain ⟨p, hp, e⟩ := hin
    simp only [closedL, List.all_eq_true, List.any_eq_true] at hc
    obtain ⟨q, hq, hqe⟩ := hc p hp o (by rw [e]; exact ho)
    have := Nat.eq_of_beq_eq_true hqe
    rcases ofL_cases h o with h' | ⟨_, h'⟩
    · exact h'
    · exact absurd this (h' q hq)
  have hlive : ∀ o, live (Um.ofL l o) = true → Um.ofL l o = s o := by
    intro o hl
    rcases ofL_cases h o with h' | ⟨h', _⟩
    · exact h'
    · rw [h'] at hl; cases hl
  have hok : ∀ b, okAt X s β w b → okAt X (Um.ofL l) β w b ∧ w.heap[b]? = w.heap[b]? := by
    intro b hb
    refine ⟨⟨hb.1, hb.2.1, fun o hl => hb.2.2 o (by rw [← hlive o hl]; exact hl)⟩, rfl⟩
  have hvr : ∀ x vs, (∀ o ∈ ment x, Um.ofL l o = s o) → VR P (okAt X s β w) w s β ν x vs → VR P (okAt X (Um.ofL l) β w) w (Um.ofL l) β ν x vs := by
    intro x vs hm hv
    refine VR_mono' hok (Nat.le_refl _) x (fun o ho k hk => ?_) hv
    have := hm o ho
    exact ⟨k, by rw [this]; exact hk, Nat.le_refl _, fun _ hl => ⟨by rw [← this]; exact hl, rfl, rfl⟩⟩
  exact {
    os := hr.os, tape := hr.tape, output := hr.output, drawn := hr.drawn, size := hr.size, frame := hr.frame, tmps := hr.tmps, defers := hr.defers
    kept := fun b o hb => ⟨(hok b (hr.kept b o hb).1).1, (hr.kept b o hb).2⟩
    own := fun o b hl hb => hr.own o b (by rw [← hlive o hl]; exact hl) hb
    inj := fun o o' b hl hl' => hr.inj o o' b (by rw [← hlive o hl]; exact hl) (by rw [← hlive o' hl']; exact hl')
    obj := fun o => by
      cases hl : live (Um.ofL l o) with
      | false => exact OR_dead hl
      | true =>
        have e := hlive o hl
        have ho := hr.obj o
        rw [← e] at ho
        generalize hx : Um.ofL l o = x at ho hl ⊢
        cases x with
        | box u c =>
          obtain ⟨b, cs, ty, h1, h2, h3, h4⟩ := ho
          exact ⟨b, cs, ty, h1, h2, h3, hvr c _ (fun o' ho' => hkey o _ hx (by simp) o' (by simpa [ment] using ho')) h4⟩
        | arr u e sz by_ f z xs =>
          obtain ⟨cells, h1, h2, h3, h4, h4', h5, h6⟩ := ho
          exact ⟨cells, h1, h2, h3, h4, h4', h5, fun i hi => R_mono _ hok (Nat.le_refl _) (h6 i hi)⟩
        | mp u kv vv m => exact ho
        | tl u e sz by_ f z xs =>
          obtain ⟨g, k, c, off, cells, h1, h2, h3, h4, h5, h6, h7, h8⟩ := ho
          exact ⟨g, k, c, off, cells, h1, h2, h3, h4, h5, h6, h7, fun i hi => R_mono _ hok (Nat.le_refl _) (h8 i hi)⟩
        | _ => trivial
    slot := fun t ht => by
      have hs := hr.slot t ht
      rcases ofL_cases h t with h' | ⟨h', _⟩
      · by_cases hany : Um.ofL l t = .any
        · rw [hany]; exact ⟨_, rfl⟩
        · rw [← h'] at hs
          exact hvr _ _ (hkey t _ rfl hany) hs
      · rw [h']; exact ⟨_, rfl⟩
    keys := fun t ht => by
      rcases ofL_cases h t with h' | ⟨h', _⟩
      · rw [h']; exact hr.keys t ht
      · rw [h']; rfl
    anch := fun hv => by
      rcases ofL_cases h 29999 with h' | ⟨h', _⟩
      · by_cases hany : Um.ofL l 29999 = .any
        · rw [hany]; exact ⟨_, rfl⟩
        · have hs := hr.anch (by rw [← h']; exact hv)
          rw [← h'] at hs
          exact hvr _ _ (hkey 29999 _ rfl hany) hs
      · rw [h']; exact ⟨_, rfl⟩ }

theorem le_ofL {P : Program} {s : St} {l : List (Nat × AV)} (h : allEq s l) (hc : closedL l = true) : Le P s (ofL l) := fun _ _ _ ⟨β, ν, hr⟩ => ⟨β, ν, hr.ofL h hc⟩

theorem Le.trans {P : Program} {s s' s'' : St} (h : Le P s s') (h' : Le P s' s'') : Le P s s'' := fun X a w hr => h' X a w (h X a w hr)
def ARel (P : Program) (ok : Nat → Prop) (w : World) (x : AV) (v : Value) : Prop := VR P ok w (fun _ => .any) (fun _ => none) (fun _ => undef) x [v]

def ArgsR (P : Program) (ok : Nat → Prop) (w : World) : List AV → List Value → Prop
  | [], vs => vs = []
  | x :: xs, vs => ∃ v vs', vs = v :: vs' ∧ ARel P ok w x v ∧ ArgsR P ok w xs vs'
def RetP (P : Program) (r : D) (ok : Nat → Prop) (w : World) (e : Ending) (w' : World) : Prop :=
  ∃ v, e = .returned v ∧ RV P r (fun b => ok b ∨ (w.heap.size ≤ b ∧ b < w'.heap.size)) w' v ∧ Belw w.heap.size w w'
def Spec (P : Program) (f : FuncId) (args : List AV) (r : D) : Prop :=
  ∀ (w : World) (ok : Nat → Prop) (vs : List Value), (∀ b, ok b → b < w.heap.size) → ArgsR P ok w args vs → Calls P f vs.toArray w (RetP P r ok w)

def initS : List AV → St
  | [], _ => .any
  | x :: _, 0 => x
  | _ :: l, t + 1 => initS l t
def Res (P : Program) (fn : Func) (s : St) (r : D) : Prop :=
  ∀ (X : Cx) (a : Act) (w : World) (β : Nat → Option Nat) (ν : Nat → Value), (∀ b, ¬ X.bor b) → RelB P X s a w β ν →
    ∃ v, (results fn a.tmps).run P w = .ok v w ∧ RV P r (fun b => (X.ok0 b ∨ X.w0.heap.size ≤ b) ∧ b < w.heap.size) w v

def Ends (P : Program) (fn : Func) (r : D) (e : Exit) (s : St) : Prop := (e = .ret ∨ e = .normal) ∧ Res P fn s r

theorem initS_ver : ∀ {args : List AV} {P : Program} {ok : Nat → Prop} {w : World} {vs : List Value}, ArgsR P ok w args vs → ∀ t, ver (initS args t) = none
  | [], _, _, _, _, _, t => rfl
  | x :: xs, P, ok, w, vs, h, 0 => by
    obtain ⟨v, vs', rfl, h1, h2⟩ := h
    simp only [initS]
    unfold ARel at h1
    cases x <;> first | rfl | exact h1.elim
  | x :: xs, P, ok, w, vs, h, t + 1 => by
    obtain ⟨v, vs', rfl, h1, h2⟩ := h
    exact initS_ver h2 t

theorem ArgsR_len : ∀ {args : List AV} {P : Program} {ok : Nat → Prop} {w : World} {vs : List Value}, ArgsR P ok w args vs → vs.length = args.length
  | [], _, _, _, _, h => by simp only [ArgsR] at h; subst h; rfl
  | x :: xs, _, _, _, _, h => by obtain ⟨v, vs', rfl, _, h2⟩ := h; simp [ArgsR_len h2]

theorem ArgsR_get : ∀ {args : List AV} {P : Program} {ok : Nat → Prop} {w : World} {vs : List Value}, ArgsR P ok w args vs → ∀ t, ARel P ok w (initS args t) (vs.getD t undef)
  | [], _, _, _, _, h, t => ⟨_, rfl⟩
  | x :: xs, P, ok, w, vs, h, 0 => by obtain ⟨v, vs', rfl, h1, h2⟩ := h; exact h1
  | x :: xs, P, ok, w, vs, h, t + 1 => by obtain ⟨v, vs', rfl, h1, h2⟩ := h; exact ArgsR_get h2 t

theorem ARel_ment {P : Program} {ok : Nat → Prop} {w : World} : ∀ (x : AV) {vs : List Value}, VR P ok w (fun _ => .any) (fun _ => none) (fun _ => undef) x vs → ∀ (s : St) (β : Nat → Option Nat) (ν : Nat → Value), VR P ok w s β ν x vs := by
  intro x
  induction x with
  | ref o u off => intro vs h; obtain ⟨v, k, _, h1, _⟩ := h; cases h1
  | elt o u sz i => intro vs h; obtain ⟨v, k, _, h1, _⟩ := h; cases h1
  | sub o u sz i => intro vs h; obtain ⟨v, k, _, h1, _⟩ := h; cases h1
  | etl o u sz i => intro vs h; obtain ⟨v, k, _, h1, _⟩ := h; cases h1
  | bsl o u n => intro vs h; obtain ⟨v, k, _, h1, _⟩ := h; cases h1
  | row o u => intro vs h; obtain ⟨v, k, _, h1, _⟩ := h; cases h1
  | clo f c ih => intro vs h s β ν; obtain ⟨caps, e, h1⟩ := h; exact ⟨caps, e, ih h1 s β ν⟩
  | sv c ih => intro vs h s β ν; obtain ⟨caps, e, h0, h1⟩ := h; exact ⟨caps, e, h0, ih h1 s β ν⟩
  | ccons a b iha ihb => intro vs h s β ν; obtain ⟨v, vs', e, h1, h2⟩ := h; exact ⟨v, vs', e, iha h1 s β ν, ihb h2 s β ν⟩
  | both v x ih => intro vs h s β ν; exact ⟨h.1, ih h.2 s β ν⟩
  | gv g x ih => intro vs h s β ν; obtain ⟨v, e, h1, h2⟩ := h; exact ⟨v, e, fun hg => ih (h1 hg) s β ν, h2⟩
  | _ => intro vs h s β ν; exact h
theorem start_rel {P : Program} {fn : Func} {args : List AV} {n : Nat} (hn : fn.ntmps = n) (hl : args.length ≤ n) {w : World} {ok : Nat → Prop} {vs : List Value} (hok : ∀ b, ok b → b < w.heap.size) (hargs : ArgsR P ok w args vs) :
    ∃ X : Cx, X.n = n ∧ X.w0 = w ∧ X.ok0 = ok ∧ (∀ b, ¬ X.bor b) ∧ X.defs = [] ∧ (∀ b, X.kp b = none) ∧ Rel P X (initS args) { tmps := vs.toArray ++ Array.replicate (fn.ntmps - vs.toArray.size) undef, defers := [] } w := by
  have hlen := ArgsR_len hargs
  let X : Cx := { n := n, w0 := w, ok0 := ok, bor := fun _ => False, av := vs.getD 29999 undef, kp := fun _ => none, defs := [], hok := fun b hb => ⟨hok b hb, id⟩ }
  have hg : ∀ t, (vs.toArray ++ Array.replicate (fn.ntmps - vs.toArray.size) undef).getD t undef = vs.getD t undef := by
    intro t
    simp only [Array.getD_eq_getD_getElem?, List.getD_eq_getElem?_getD, Array.getElem?_append, List.getElem?_toArray, List.size_toArray]
    split
    · rfl
    · rename_i hlt
      rw [List.getElem?_eq_none (by omega : vs.length ≤ t)]
      simp only [Array.getElem?_replicate]
      split <;> rfl
  have hr : Rel P X (initS args) { tmps := vs.toArray ++ Array.replicate (fn.ntmps - vs.toArray.size) undef, defers := [] } w := by
    refine ⟨fun _ => none, fun _ => undef, ?_⟩
    have hd : ∀ o, live (initS args o) = false := fun o => live_ver (initS_ver hargs o)
    exact {
      os := rfl, tape := rfl, output := rfl, drawn := Nat.le_refl _, kept := fun _ _ h => by (cases h), size := Nat.le_refl _, frame := fun _ _ _ => rfl
      own := fun o b hl _ => by rw [hd o] at hl; cases hl
      inj := fun o o' b hl _ _ _ => by rw [hd o] at hl; cases hl
      obj := fun o => OR_dead (hd o)
      slot := fun t _ => by
        show VR P _ w _ _ _ _ [(vs.toArray ++ Array.replicate (fn.ntmps - vs.toArray.size) undef).getD t undef]
        rw [hg t]
        have := ARel_ment _ (ArgsR_get hargs t) (initS args) (fun _ => none) (fun _ => undef)
        exact VR_mono (fun b hb => ⟨⟨.inl hb, hok b hb, fun o hl => by rw [hd o] at hl; cases hl⟩, rfl⟩) (Nat.le_refl _) (Goes.refl _ _ _) _ this
      keys := fun t _ => initS_ver hargs t
      tmps := by simp [X, hn, hlen]; omega
      defers := rfl
      anch := fun _ => VR_mono (fun b hb => ⟨⟨.inl hb, hok b hb, fun o hl => by rw [hd o] at hl; cases hl⟩, rfl⟩) (Nat.le_refl _) (Goes.refl _ _ _) _ (ARel_ment _ (ArgsR_get hargs 29999) (initS args) (fun _ => none) (fun _ => undef)) }
  exact ⟨X, rfl, rfl, rfl, fun _ => id, rfl, fun _ => rfl, hr⟩

def shut (w : World) : List Nat → World
  | [] => w
  | D :: Ds => shut (w.putObj D (.deferred none)) Ds

theorem leaves_marks {P : Program} {fn : Func} {tmps : Array Value} {R : Ending → World → Prop} : ∀ (Ds : List Nat) (w : World), Ds.Nodup → (∀ D ∈ Ds, w.heap[D]? = some (.deferred (some []))) →
    (∃ v, (results fn tmps).run P (shut w Ds) = .ok v (shut w Ds) ∧ R (.returned v) (shut w Ds)) → LeavesInM (wd none) 0 P fn tmps R (Ds.map mk) .returning w
  | [], w, _, _, h => h
  | D :: Ds, w, hn, hD, h => by
    rw [List.nodup_cons] at hn
    refine ⟨nofun, .inl ⟨D, _, rfl, run_takeDeferred (hD D (List.mem_cons_self ..)), ?_⟩⟩
    refine leaves_marks Ds _ hn.2 (fun E hE => ?_) h
    have hne : E ≠ D := fun e => hn.1 (e ▸ hE)
    rw [World.putObj_heap_other hne]
    exact hD E (List.mem_cons_of_mem _ hE)

theorem RelB.shut1 {P : Program} {X : Cx} {s : St} {a : Act} {w : World} {β : Nat → Option Nat} {ν : Nat → Value} (hr : RelB P X s a w β ν) {D : Nat} {o o' : Obj} (hD : okAt X s β w D) (hc : w.heap[D]? = some o) (hcc : cellsB (some o) = false) (hn : X.w0.heap.size ≤ D ∨ X.bor D)
    (K : Nat → Option Obj) (hK : ∀ b o, K b = some o → (X.kp b = some o ∧ b ≠ D) ∨ (b = D ∧ o = o')) (ds : List Deferred) : RelB P { X with kp := K, defs := ds } s { a with defers := ds } (w.putObj D o') β ν := by
  have hs : w.heap.size ≤ (w.putObj D o').heap.size := by simp
  have hne : ∀ b, b ≠ D → (w.putObj D o').heap[b]? = w.heap[b]? := fun b h => World.putObj_heap_other h
  have hk : ∀ b, okAt X s β w b → okAt { X with kp := K, defs := ds } s β (w.putObj D o') b ∧ (cellsB w.heap[b]? = true → (w.putObj D o').heap[b]? = w.heap[b]?) := fun b hb =>
    ⟨⟨hb.1, Nat.lt_of_lt_of_le hb.2.1 hs, hb.2.2⟩, fun h => hne b (fun e => by rw [e, hc, hcc] at h; cases h)⟩
  have hvr : ∀ x vs, VR P (okAt X s β w) w s β ν x vs → VR P (okAt { X with kp := K, defs := ds } s β (w.putObj D o')) (w.putObj D o') s β ν x vs := fun x vs h => VR_monoC' hk hs x (fun o _ => Goes.refl s β ν o) h
  exact {
    os := hr.os, tape := hr.tape, output := hr.output, drawn := hr.drawn, size := Nat.le_trans hr.size hs
    frame := fun b hb hn' => (hne b (fun e => by subst e; exact hn.elim (fun h => absurd hb (Nat.not_lt.2 h)) hn')).trans (hr.frame b hb hn')
    own := fun o b hl hb => ⟨(hr.own o b hl hb).1, Nat.lt_of_lt_of_le (hr.own o b hl hb).2 hs⟩
    inj := hr.inj
    obj := fun o => by
      cases hl : live (s o) with
      | false => exact OR_dead hl
      | true => exact OR_monoC hk hs (Goes.refl s β ν) rfl rfl (fun b hb => hne b (fun e => by subst e; exact hD.2.2 o hl hb)) _ (hr.obj o)
    slot := fun t ht => hvr _ _ (hr.slot t ht)
    keys := hr.keys, tmps := hr.tmps, defers := rfl
    kept := fun b o hb => by
      rcases hK b o hb with ⟨h1, h2⟩ | ⟨rfl, rfl⟩
      · exact ⟨(hk b (hr.kept b o h1).1).1, (hne b h2).trans (hr.kept b o h1).2⟩
      · exact ⟨(hk b hD).1, World.putObj_heap_same hD.2.1⟩
    anch := fun hv => hvr _ _ (hr.anch hv) }

theorem RelB.shuts {P : Program} {s : St} {β : Nat → Option Nat} {ν : Nat → Value} (K : Nat → Option Obj) : ∀ (Ds : List Nat) {X : Cx} {a : Act} {w : World}, RelB P X s a w β ν → Ds.Nodup →
    (∀ D ∈ Ds, okAt X s β w D ∧ w.heap[D]? = some (.deferred (some [])) ∧ X.w0.heap.size ≤ D) → (∀ b o, K b = some o → X.kp b = some o ∧ b ∉ Ds) →
    RelB P { X with kp := K, defs := [] } s { a with defers := [] } (shut w Ds) β ν
  | [], X, a, w, hr, _, _, hK => {
      os := hr.os, tape := hr.tape, output := hr.output, drawn := hr.drawn, size := hr.size, frame := hr.frame, own := hr.own, inj := hr.inj, obj := hr.obj, slot := hr.slot, keys := hr.keys, tmps := hr.tmps, defers := rfl
      kept := fun b o hb => hr.kept b o (hK b o hb).1
      anch := hr.anch }
  | D :: Ds, X, a, w, hr, hn, hD, hK => by
    rw [List.nodup_cons] at hn
    obtain ⟨h1, h2, h3⟩ := hD D (List.mem_cons_self ..)
    have h := hr.shut1 (o' := .deferred none) h1 h2 rfl (.inl h3) K (fun b o hb => .inl ⟨(hK b o hb).1, fun e => (hK b o hb).2 (e ▸ List.mem_cons_self ..)⟩) []
    have hD2 : ∀ E ∈ Ds, okAt { X with kp := K, defs := [] } s β (w.putObj D (.deferred none)) E ∧ (w.putObj D (.deferred none)).heap[E]? = some (.deferred (some [])) ∧ X.w0.heap.size ≤ E := by
      intro E hE
      obtain ⟨g1, g2, g3⟩ := hD E (List.mem_cons_of_mem _ hE)
      refine ⟨⟨g1.1, Nat.lt_of_lt_of_le g1.2.1 (by simp), g1.2.2⟩, ?_, g3⟩
      have hne : E ≠ D := fun e => hn.1 (e ▸ hE)
      rw [World.putObj_heap_other hne]
      exact g2
    exact RelB.shuts K Ds (X := { X with kp := K, defs := [] }) (a := { a with defers := [] }) h hn.2 hD2 (fun b o hb => ⟨hb, fun h => (hK b o hb).2 (List.mem_cons_of_mem _ h)⟩)
theorem calls_of_aft {P : Program} {f : FuncId} {fn : Func} {c : Code} (hf : P.funcs[f]? = some fn) (hb : fn.body = some c) {args : Array Value} {X : Cx} (hd : X.defs = []) {Q : Exit → St → Prop} (hQ : ∀ e s, Q e s → e = .ret ∨ e = .normal) {R : Ending → World → Prop}
    (h : c.wpIn (wd none) 0 P (Aft P X Q) { tmps := args ++ Array.replicate (fn.ntmps - args.size) undef, defers := [] } X.w0)
    (hR : ∀ e s X' a w β ν, Q e s → X'.n = X.n → X'.w0 = X.w0 → X'.ok0 = X.ok0 → X'.bor = X.bor → X'.av = X.av → X'.kp = X.kp → RelB P X' s a w β ν → ∃ v, (results fn a.tmps).run P w = .ok v w ∧ R (.returned v) w) : Calls P f args X.w0 R := by
  refine (callsIn_wide (n := 0)).1 (callsIn_of_wp_marks (F := Fence.wide) hf hb trivial (wpIn_mono h ?_))
  rintro e a' w' ⟨s', X', hx, hq, β, ν, hr⟩
  obtain ⟨Ds, h1, h2, h3⟩ := hx.defs
  rw [hd, List.append_nil] at h1
  have hDs : ∀ D ∈ Ds, okAt X' s' β w' D ∧ w'.heap[D]? = some (.deferred (some [])) ∧ X'.w0.heap.size ≤ D := fun D hD => ⟨(hr.kept D _ (h3 D hD).2.1).1, (hr.kept D _ (h3 D hD).2.1).2, by rw [hx.w0]; exact (h3 D hD).2.2⟩
  have hs := hr.shuts X.kp Ds h2 hDs (fun b o hb => ⟨hx.kp b o hb, fun hm => by rw [(h3 b hm).1] at hb; cases hb⟩)
  have hres := hR e s' { X' with kp := X.kp, defs := [] } { a' with defers := [] } (shut w' Ds) β ν hq hx.n hx.w0 hx.ok0 hx.bor hx.av rfl hs
  have hfin : LeavesInM Fence.wide 0 P fn a'.tmps R a'.defers .returning w' := by
    rw [hr.defers, h1]
    exact leaves_marks Ds w' h2 (fun D hD => (hDs D hD).2.1) hres
  rcases hQ e s' hq with rfl | rfl
  · exact hfin
  · exact hfin

theorem spec_of {P : Program} {f : FuncId} {fn : Func} {c : Code} {args : List AV} {r : D} (hf : P.funcs[f]? = some fn) (hb : fn.body = some c) {n : Nat} (hn : fn.ntmps = n) (hl : args.length ≤ n)
    (h : AW P ⟨n, true⟩ c (initS args) (Ends P fn r)) : Spec P f args r := by
  intro w ok vs hok hargs
  obtain ⟨X, hXn, rfl, rfl, hXb, hXd, hXk, hr⟩ := start_rel (fn := fn) hn hl hok hargs
  refine calls_of_aft hf hb hXd (fun e s h => h.1) (h none X _ _ ⟨hXn, fun _ => rfl⟩ hr) ?_
  rintro e s X' a' w' β ν ⟨he, hres⟩ x1 x2 x3 x4 x5 x6 hr'
  obtain ⟨v, hv1, hv2⟩ := hres X' a' w' β ν (fun b => by rw [x4]; exact hXb b) hr'
  rw [x2, x3] at hv2
  refine ⟨v, hv1, v, rfl, RV_mono (fun b hb => ⟨hb.1.elim .inl (fun h => .inr ⟨h, hb.2⟩), rfl⟩) (Nat.le_refl _) hv2, ⟨⟨?_, ?_, ?_, ?_, ?_⟩, ?_⟩⟩
  · rw [← x2]; exact hr'.os
  · rw [← x2]; exact hr'.tape
  · rw [← x2]; exact hr'.output
  · rw [← x2]; exact hr'.size
  · intro k hk; rw [← x2] at hk ⊢; exact hr'.frame k hk (by rw [x4]; exact hXb k)
  · rw [← x2]; exact hr'.drawn

end Go.Um

/- Operations that leave the world alone: what they make of abstract values. No condition. -/


namespace Go.Um
open Go Go.RowKit
def Sees (x y : AV) : Prop := ∀ (P : Program) (ok : Nat → Prop) (w : World) (s : St) (β : Nat → Option Nat) (ν : Nat → Value) (v : Value), VR P ok w s β ν x [v] → VR P ok w s β ν y [v]

theorem Sees.same {x : AV} : Sees x x := fun _ _ _ _ _ _ _ h => h
theorem Sees.of {x y : AV} (h : x = y) : Sees x y := h ▸ Sees.same
theorem Sees.gv {g : Bool} {x : AV} (h : g = true) : Sees (.gv g x) x := by
  intro P ok w s β ν v hv
  obtain ⟨u, e, h1, _⟩ := hv
  simp only [List.cons.injEq, and_true] at e
  subst e
  exact h1 h
theorem Sees.gv' {a : AV} {g : Bool} {x : AV} (e : a = .gv g x) (h : g = true) : Sees a x := e ▸ Sees.gv h

def kx : Operand → List Nat
  | .tmp t => [t]
  | _ => []

theorem ev_congr {s t : St} {x : Operand} (h : ∀ k ∈ kx x, t k = s k) : ev t x = ev s x := by
  cases x with
  | tmp j => simp only [ev, h j (by simp [kx])]
  | _ => rfl

theorem blt_lt {d n : Nat} (h : Nat.blt d n = true) : d < n := by simp [Nat.blt] at h; omega

section
variable {P : Program} {X : Cx} {s t : St} {a : Act} {w : World} {β : Nat → Option Nat} {ν : Nat → Value}

theorem RelB.sees (hr : RelB P X t a w β ν) {x : Operand} {y : AV} (hk : ∀ k ∈ kx x, t k = s k) (hx : Sees (ev s x) y) : VR P (okAt X t β w) w t β ν y [a.eval x] := by
  have := hr.eval x
  rw [ev_congr hk] at this
  exact hx _ _ _ _ _ _ _ this

theorem vr_int {ok : Nat → Prop} {k : IntKind} {n : Int} {v : Value} (h : VR P ok w s β ν (.val (.int k n)) [v]) : v = .int k n := by
  obtain ⟨u, e, h1, h2⟩ := h
  simp only [List.cons.injEq, and_true] at e
  subst e
  simp only [R] at h2
  cases v <;> simp_all [Value.cells, vAgg, D.isAgg]

theorem vr_bool {ok : Nat → Prop} {b : Bool} {v : Value} (h : VR P ok w s β ν (.val (.bool b)) [v]) : v = .bool b := by
  obtain ⟨u, e, h1, h2⟩ := h
  simp only [List.cons.injEq, and_true] at e
  subst e
  simp only [R] at h2
  cases v <;> simp_all [Value.cells, vAgg, D.isAgg]

theorem mk_int (ok : Nat → Prop) (k : IntKind) (n : Int) : VR P ok w s β ν (.val (.int k n)) [.int k n] := ⟨_, rfl, rfl, rfl⟩
theorem mk_bool (ok : Nat → Prop) (b : Bool) : VR P ok w s β ν (.val (.bool b)) [.bool b] := ⟨_, rfl, rfl, rfl⟩
theorem RelB.int (hr : RelB P X t a w β ν) {x : Operand} {k : IntKind} {n : Int} (hk : ∀ k ∈ kx x, t k = s k) (hx : Sees (ev s x) (.val (.int k n))) : a.eval x = .int k n := vr_int (hr.sees hk hx)
theorem RelB.bool (hr : RelB P X t a w β ν) {x : Operand} {b : Bool} (hk : ∀ k ∈ kx x, t k = s k) (hx : Sees (ev s x) (.val (.bool b))) : a.eval x = .bool b := vr_bool (hr.sees hk hx)
end
def PStep (P : Program) (o : Oper) (K : List Nat) (s : St) (y : AV) : Prop :=
  (∀ (X : Cx) (t : St) (a : Act) (w : World) (β : Nat → Option Nat) (ν : Nat → Value), (∀ k ∈ K, t k = s k) → RelB P X t a w β ν →
    ver y = none ∧ ∃ v, (execOp a.eval o).run P w = .ok (.value v) w ∧ VR P (okAt X t β w) w t β ν y [v])

section
variable {P : Program} {n : Nat} {ops : Array Oper} {s : St}

theorem ovr_one {t : St} {d : Nat} {y : AV} {s : St} : ovr t [d] (upd s d y) = upd t d y := by
  funext k
  by_cases e : k = d
  · subst e; simp [ovr, upd_same]
  · simp [ovr, e, upd_ne _ _ e]

theorem upd_off {s : St} {d : Nat} {y : AV} (k : Nat) (h : k ∉ [d]) : upd s d y k = s k := upd_ne s y (by simpa using h)

theorem opWp_run {Q : Exit → Act → World → Prop} {o : Oper} {K : Act → World → Prop} {a : Act} {w w' : World} {v : Value} (hw : Region.wanted o (yielded ops a.tmps) = true)
    (hr : (execOp a.eval o).run P w = .ok (.value v) w') (h : K (a.put o.dst v) w') : opWp P ops Q o K a w := by
  unfold opWp
  rw [if_pos hw]
  left
  unfold Oper.wp
  rw [hr]
  exact h

theorem yielded_bool {a : Act} {j g : Nat} {b : Bool} (hj : (ops[j]?).bind (·.dst) = some g) (hv : a.tmps[g]? = some (.bool b)) : yielded ops a.tmps j = some b := by
  simp only [yielded, hj, Option.bind_some, hv]
theorem and_true_of {a b : Bool} (h : a = true) (h' : b = true) : (a && b) = true := by rw [h, h']; rfl

def DerS (P : Program) (n : Nat) (ops : Array Oper) : List Oper → St → (St → Prop) → Prop
  | [], s, K => K s
  | o :: l, s, K => ∃ F s1, LStep P n ops o F s s1 ∧ DerS P n ops l s1 K
theorem DerS.derL : ∀ (l : List Oper) (i : Nat) {s : St} {K : St → Prop}, DerS P n ops l s K → ∃ L, DerL P n ops i l L s K
  | [], i, s, K, h => ⟨[], rfl, h⟩
  | o :: l, i, s, K, h => by
    obtain ⟨F, s1, h1, h2⟩ := h
    obtain ⟨L, h3⟩ := DerS.derL l (i + 1) h2
    exact ⟨(i, F) :: L, F, L, s1, rfl, h1, h3⟩
theorem scons {o : Oper} {l : List Oper} {F : List Nat × List Nat} {s1 : St} {K : St → Prop} (h : LStep P n ops o F s s1) (h' : DerS P n ops l s1 K) : DerS P n ops (o :: l) s K := ⟨F, s1, h, h'⟩
theorem snil {K : St → Prop} (h : K s) : DerS P n ops [] s K := h
def DerD (P : Program) (n : Nat) (ops : Array Oper) : Nat → List Oper → List (Nat × (List Nat × List Nat)) → St → (St → Prop) → Prop
  | _, [], acc, s, K => drawOk ops acc.reverse = true ∧ K s
  | i, o :: l, acc, s, K => ∃ F s1, LStep P n ops o F s s1 ∧ DerD P n ops (i + 1) l ((i, F) :: acc) s1 K
theorem DerD.derL : ∀ (l : List Oper) (i : Nat) (acc : List (Nat × (List Nat × List Nat))) {s : St} {K : St → Prop}, DerD P n ops i l acc s K → ∃ L, DerL P n ops i l L s K ∧ drawOk ops (acc.reverse ++ L) = true
  | [], i, acc, s, K, h => ⟨[], ⟨rfl, h.2⟩, by simpa using h.1⟩
  | o :: l, i, acc, s, K, h => by
    obtain ⟨F, s1, h1, h2⟩ := h
    obtain ⟨L, h3, h4⟩ := DerD.derL l (i + 1) _ h2
    exact ⟨(i, F) :: L, ⟨F, L, s1, rfl, h1, h3⟩, by simpa using h4⟩
theorem dcons {i : Nat} {o : Oper} {l : List Oper} {F : List Nat × List Nat} {acc : List (Nat × (List Nat × List Nat))} {s1 : St} {K : St → Prop} (h : LStep P n ops o F s s1) (h' : DerD P n ops (i + 1) l ((i, F) :: acc) s1 K) :
    DerD P n ops i (o :: l) acc s K := ⟨F, s1, h, h'⟩
theorem dnil {i : Nat} {acc : List (Nat × (List Nat × List Nat))} {K : St → Prop} (hok : drawOk ops acc.reverse = true) (h : K s) : DerD P n ops i [] acc s K := ⟨hok, h⟩

end

section
variable {P : Program} {s : St} {o : Oper}

theorem kl {K K' : List Nat} {s t : St} (h : ∀ k ∈ K ++ K', t k = s k) : ∀ k ∈ K, t k = s k := fun k hk => h k (List.mem_append_left _ hk)
theorem kr {K K' : List Nat} {s t : St} (h : ∀ k ∈ K ++ K', t k = s k) : ∀ k ∈ K', t k = s k := fun k hk => h k (List.mem_append_right _ hk)

theorem p_move {x : Operand} {y : AV} (ho : o.op = .move x) (hx : Sees (ev s x) y) (hv : ver y = none) : PStep P o (kx x) s y := by
  intro X t a w β ν hk hr
  exact ⟨hv, a.eval x, by simp [execOp, ho], hr.sees hk hx⟩

theorem p_assign {x : Operand} {y : AV} (ho : o.op = .assign x) (hx : Sees (ev s x) y) (hv : ver y = none) : PStep P o (kx x) s y := by
  intro X t a w β ν hk hr
  exact ⟨hv, a.eval x, by simp [execOp, ho], hr.sees hk hx⟩

theorem beq_of_eq {b want : Bool} (h : b = want) : (b == want) = true := by simp [h]
theorem p_or {c x y : Operand} {bc bb : Bool} (ho : o.op = .pick c x y) (hc : Sees (ev s c) (.val (.bool bc))) (hx : Sees (ev s x) (.val (.bool true))) (hy : bc = false → Sees (ev s y) (.val (.bool bb))) :
    PStep P o (kx c ++ (kx x ++ kx y)) s (.val (.bool (bc || bb))) := by
  intro X t a w β ν hk hr
  have h1 := hr.bool (kl hk) hc
  have h2 := hr.bool (kl (kr hk)) hx
  cases bc with
  | true => exact ⟨rfl, .bool true, by simp [execOp, ho, h1, h2, asBool], mk_bool _ _⟩
  | false => exact ⟨rfl, .bool bb, by simp [execOp, ho, h1, hr.bool (kr (kr hk)) (hy rfl), asBool], by simpa using mk_bool _ _⟩
theorem p_and {c x y : Operand} {bc ba : Bool} (ho : o.op = .pick c x y) (hc : Sees (ev s c) (.val (.bool bc))) (hx : bc = true → Sees (ev s x) (.val (.bool ba))) (hy : Sees (ev s y) (.val (.bool false))) :
    PStep P o (kx c ++ (kx x ++ kx y)) s (.val (.bool (bc && ba))) := by
  intro X t a w β ν hk hr
  have h1 := hr.bool (kl hk) hc
  have h2 := hr.bool (kr (kr hk)) hy
  cases bc with
  | true => exact ⟨rfl, .bool ba, by simp [execOp, ho, h1, hr.bool (kl (kr hk)) (hx rfl), asBool], by simpa using mk_bool _ _⟩
  | false => exact ⟨rfl, .bool false, by simp [execOp, ho, h1, h2, asBool], mk_bool _ _⟩

section
variable {x y : Operand} {T T' : TypeId} {k : IntKind} {m n : Int}

theorem p_lss (ho : o.op = .binOp .lss T x y T') (hx : Sees (ev s x) (.val (.int k m))) (hy : Sees (ev s y) (.val (.int k n))) : PStep P o (kx x ++ kx y) s (.val (.bool (decide (m < n)))) := by
  intro X t a w β ν hk hr
  exact ⟨rfl, .bool (decide (m < n)), by simp [execOp, ho, hr.int (kl hk) hx, hr.int (kr hk) hy, eqGuard, binOp, Op.intCmp], mk_bool _ _⟩
theorem p_leq (ho : o.op = .binOp .leq T x y T') (hx : Sees (ev s x) (.val (.int k m))) (hy : Sees (ev s y) (.val (.int k n))) : PStep P o (kx x ++ kx y) s (.val (.bool (decide (m ≤ n)))) := by
  intro X t a w β ν hk hr
  exact ⟨rfl, .bool (decide (m ≤ n)), by simp [execOp, ho, hr.int (kl hk) hx, hr.int (kr hk) hy, eqGuard, binOp, Op.intCmp], mk_bool _ _⟩
theorem p_gtr (ho : o.op = .binOp .gtr T x y T') (hx : Sees (ev s x) (.val (.int k m))) (hy : Sees (ev s y) (.val (.int k n))) : PStep P o (kx x ++ kx y) s (.val (.bool (decide (n < m)))) := by
  intro X t a w β ν hk hr
  exact ⟨rfl, .bool (decide (n < m)), by simp [execOp, ho, hr.int (kl hk) hx, hr.int (kr hk) hy, eqGuard, binOp, Op.intCmp], mk_bool _ _⟩
theorem p_geq (ho : o.op = .binOp .geq T x y T') (hx : Sees (ev s x) (.val (.int k m))) (hy : Sees (ev s y) (.val (.int k n))) : PStep P o (kx x ++ kx y) s (.val (.bool (decide (n ≤ m)))) := by
  intro X t a w β ν hk hr
  exact ⟨rfl, .bool (decide (n ≤ m)), by simp [execOp, ho, hr.int (kl hk) hx, hr.int (kr hk) hy, eqGuard, binOp, Op.intCmp], mk_bool _ _⟩
theorem p_eql (ho : o.op = .binOp .eql T x y T') (hx : Sees (ev s x) (.val (.int k m))) (hy : Sees (ev s y) (.val (.int k n))) : PStep P o (kx x ++ kx y) s (.val (.bool (decide (m = n)))) := by
  intro X t a w β ν hk hr
  exact ⟨rfl, .bool (decide (m = n)), by simp [execOp, ho, hr.int (kl hk) hx, hr.int (kr hk) hy, eqGuard, binOp, Op.intCmp]; rfl, mk_bool _ _⟩
theorem p_neq (ho : o.op = .binOp .neq T x y T') (hx : Sees (ev s x) (.val (.int k m))) (hy : Sees (ev s y) (.val (.int k n))) : PStep P o (kx x ++ kx y) s (.val (.bool (!decide (m = n)))) := by
  intro X t a w β ν hk hr
  exact ⟨rfl, .bool (!decide (m = n)), by simp [execOp, ho, hr.int (kl hk) hx, hr.int (kr hk) hy, eqGuard, binOp, Op.intCmp]; rfl, mk_bool _ _⟩
theorem p_addW (ho : o.op = .binOp .add T x y T') (hx : Sees (ev s x) (.val (.int k m))) (hy : Sees (ev s y) (.val (.int k n))) : PStep P o (kx x ++ kx y) s (.val (.int k (k.wrap (m + n)))) := by
  intro X t a w β ν hk hr
  exact ⟨rfl, _, by simp [execOp, ho, hr.int (kl hk) hx, hr.int (kr hk) hy, eqGuard, binOp, Op.intArith], mk_int _ _ _⟩
theorem p_subW (ho : o.op = .binOp .sub T x y T') (hx : Sees (ev s x) (.val (.int k m))) (hy : Sees (ev s y) (.val (.int k n))) : PStep P o (kx x ++ kx y) s (.val (.int k (k.wrap (m - n)))) := by
  intro X t a w β ν hk hr
  exact ⟨rfl, _, by simp [execOp, ho, hr.int (kl hk) hx, hr.int (kr hk) hy, eqGuard, binOp, Op.intArith], mk_int _ _ _⟩
theorem p_quoW (ho : o.op = .binOp .quo T x y T') (hx : Sees (ev s x) (.val (.int k m))) (hy : Sees (ev s y) (.val (.int k n))) (h0 : n ≠ 0) : PStep P o (kx x ++ kx y) s (.val (.int k (k.wrap (m.tdiv n)))) := by
  intro X t a w β ν hk hr
  exact ⟨rfl, _, by simp [execOp, ho, hr.int (kl hk) hx, hr.int (kr hk) hy, eqGuard, binOp, Op.intDiv, h0], mk_int _ _ _⟩
theorem p_rem (ho : o.op = .binOp .rem T x y T') (hx : Sees (ev s x) (.val (.int k m))) (hy : Sees (ev s y) (.val (.int k n))) (h0 : n ≠ 0) : PStep P o (kx x ++ kx y) s (.val (.int k (m.tmod n))) := by
  intro X t a w β ν hk hr
  exact ⟨rfl, _, by simp [execOp, ho, hr.int (kl hk) hx, hr.int (kr hk) hy, eqGuard, binOp, Op.intDiv, h0], mk_int _ _ _⟩
theorem p_negW (ho : o.op = .unOp .neg T x) (hx : Sees (ev s x) (.val (.int k m))) : PStep P o (kx x) s (.val (.int k (k.wrap (0 - m)))) := by
  intro X t a w β ν hk hr
  exact ⟨rfl, _, by simp [execOp, ho, hr.int hk hx, Op.unary, Op.intArith], mk_int _ _ _⟩
theorem p_not {b : Bool} (ho : o.op = .unOp .not T x) (hx : Sees (ev s x) (.val (.bool b))) : PStep P o (kx x) s (.val (.bool (!b))) := by
  intro X t a w β ν hk hr
  exact ⟨rfl, .bool (!b), by simp [execOp, ho, hr.bool hk hx, Op.unary], mk_bool _ _⟩

theorem p_add (ho : o.op = .binOp .add T x y T') (hx : Sees (ev s x) (.val (.int .i64 m))) (hy : Sees (ev s y) (.val (.int .i64 n))) (h : -9223372036854775808 ≤ m + n ∧ m + n ≤ 9223372036854775807) :
    PStep P o (kx x ++ kx y) s (.val (.int .i64 (m + n))) := by
  have := p_addW (P := P) ho hx hy
  rwa [IntWalk.i64_in _ (by omega)] at this
theorem p_sub (ho : o.op = .binOp .sub T x y T') (hx : Sees (ev s x) (.val (.int .i64 m))) (hy : Sees (ev s y) (.val (.int .i64 n))) (h : -9223372036854775808 ≤ m - n ∧ m - n ≤ 9223372036854775807) :
    PStep P o (kx x ++ kx y) s (.val (.int .i64 (m - n))) := by
  have := p_subW (P := P) ho hx hy
  rwa [IntWalk.i64_in _ (by omega)] at this
theorem p_neg (ho : o.op = .unOp .neg T x) (hx : Sees (ev s x) (.val (.int .i64 m))) (h : -9223372036854775807 ≤ m ∧ m ≤ 9223372036854775808) : PStep P o (kx x) s (.val (.int .i64 (-m))) := by
  have := p_negW (P := P) ho hx
  rw [IntWalk.i64_in _ (by omega)] at this
  simpa using this
end
end
end Go.Um

/- Operations that read memory: lengths, indexes, loads, fields, slices, structs. No condition. -/

namespace Go.Um
open Go Go.RowKit
def IsSlice (P : Program) (T e : TypeId) : Prop := P.underlying T = some (.slice e)
def Size (P : Program) (T k : Nat) : Prop := (P.info? T).map (·.size) = some k
def aggDesc : TypeDesc → Bool
  | .struct _ => true
  | .array _ _ => true
  | _ => false
def IsAgg (P : Program) (T : TypeId) (b : Bool) : Prop := (P.underlying T).map aggDesc = some b
def fieldsOf : TypeDesc → Array Field
  | .struct fs => fs
  | _ => #[]
def IsField (P : Program) (T i off ft : Nat) : Prop := (P.underlying T).bind (fun d => match d with | .struct fs => (fs[i]?).map (fun f => (f.offset, f.type)) | _ => none) = some (off, ft)

theorem run_sizeOf {P : Program} {T k : Nat} (h : Size P T k) (w : World) : (sizeOf T).run P w = .ok k w := by
  unfold Size at h
  obtain ⟨i, hi, rfl⟩ := Option.map_eq_some_iff.1 h
  simp [sizeOf, typeInfo, hi]

theorem run_isAgg {P : Program} {T : TypeId} {b : Bool} (h : IsAgg P T b) (w : World) : (isAgg T).run P w = .ok b w := by
  unfold IsAgg at h
  obtain ⟨d, hd, rfl⟩ := Option.map_eq_some_iff.1 h
  cases d <;> simp [isAgg, underlying, hd, aggDesc]

theorem run_underlying' {P : Program} {T : TypeId} {d : TypeDesc} (h : P.underlying T = some d) (w : World) : (underlying T).run P w = .ok d w := by simp [underlying, h]

def D.one : D → Bool
  | .int .. => true
  | .bool _ => true
  | .str _ => true
  | .list .. => true
  | .fn .. => true
  | .sl .. => true
  | .any => true
  | .ptr .. => true
  | .clp .. => true
  | .ifc .. => true
  | _ => false

theorem R_one {P : Program} {d : D} {ok : Nat → Prop} {w : World} {cs : List Value} (hd : d.one = true) (h : R P d ok w cs) : ∃ v, cs = [v] ∧ RV P d ok w v := by
  cases d with
  | int k n => simp only [R] at h; exact ⟨_, h, rfl, rfl⟩
  | bool b => simp only [R] at h; exact ⟨_, h, rfl, rfl⟩
  | str b => simp only [R] at h; exact ⟨_, h, rfl, rfl⟩
  | list s f z xs => obtain ⟨a, cap, e, h'⟩ := h; exact ⟨_, e, rfl, a, cap, rfl, h'⟩
  | fn f g => obtain ⟨F, caps, e, h'⟩ := h; exact ⟨_, e, rfl, F, caps, rfl, h'⟩
  | sl b d => obtain ⟨h1, h2, a, l, c, e, h3⟩ := h; subst e; exact ⟨_, rfl, rfl, h1, h2, a, l, c, rfl, h3⟩
  | any => obtain ⟨v, e, h1⟩ := h; subst e; cases v <;> first | exact ⟨_, rfl, rfl, _, rfl, rfl⟩ | cases h1
  | ptr d => obtain ⟨p, cs, e, h'⟩ := h; exact ⟨_, e, rfl, p, cs, rfl, h'⟩
  | clp d => obtain ⟨h1, h2, a, l, e⟩ := h; subst e; exact ⟨_, rfl, rfl, h1, h2, a, l, rfl⟩
  | ifc T d => obtain ⟨v, e, h'⟩ := h; subst e; exact ⟨_, rfl, rfl, v, rfl, h'⟩
  | _ => cases hd

theorem RV_one {P : Program} {d : D} {ok : Nat → Prop} {w : World} {v : Value} (hd : d.one = true) (h : RV P d ok w v) : R P d ok w [v] ∧ v.oneCell' = true := by
  obtain ⟨h1, h2⟩ := h
  obtain ⟨u, e, hu⟩ := R_one hd h2
  have hna : vAgg v = false := by rw [h1]; cases d <;> first | rfl | cases hd
  have : v.cells.toList = [v] := by cases v <;> simp_all [Value.cells, vAgg]
  rw [this] at h2
  refine ⟨h2, ?_⟩
  cases d with
  | int k n => simp only [R] at h2; simp at h2; subst h2; rfl
  | bool b => simp only [R] at h2; simp at h2; subst h2; rfl
  | str b => simp only [R] at h2; simp at h2; subst h2; rfl
  | list s f z xs => obtain ⟨a, cap, e, h'⟩ := h2; simp at e; subst e; rfl
  | fn f g => obtain ⟨F, caps, e, h'⟩ := h2; simp at e; subst e; rfl
  | sl b d => obtain ⟨h1, h3, a, l, c, e, h4⟩ := h2; simp at e; subst e; rfl
  | any => obtain ⟨u, e, h3⟩ := h2; simp at e; subst e; exact h3
  | ptr d => obtain ⟨p, cs, e, h'⟩ := h2; simp at e; subst e; rfl
  | clp d => obtain ⟨h1, h3, a, l, e⟩ := h2; simp at e; subst e; rfl
  | ifc T d => obtain ⟨v, e, h'⟩ := h2; simp at e; subst e; rfl
  | _ => cases hd
def D.nth : D → Nat → D
  | .cons a _, 0 => a
  | .cons _ b, i + 1 => b.nth i
  | _, _ => .nil

def D.len : D → Nat
  | .cons _ b => b.len + 1
  | _ => 0

theorem R_nth {P : Program} {ok : Nat → Prop} {w : World} : ∀ (c : D) {cs : List Value} (i : Nat), R P c ok w cs → i < c.len → ∃ v, cs[i]? = some v ∧ RV P (c.nth i) ok w v
  | .cons a b, cs, i, h, hi => by
    obtain ⟨v, vs, rfl, h1, h2, h3⟩ := h
    cases i with
    | zero => exact ⟨v, rfl, h1, h2⟩
    | succ i => exact R_nth b i h3 (by simpa [D.len] using hi)
  | .int .., _, _, _, hi => by simp [D.len] at hi
  | .bool .., _, _, _, hi => by simp [D.len] at hi
  | .str .., _, _, _, hi => by simp [D.len] at hi
  | .nil, _, _, _, hi => by simp [D.len] at hi
  | .agg .., _, _, _, hi => by simp [D.len] at hi
  | .tup .., _, _, _, hi => by simp [D.len] at hi
  | .list .., _, _, _, hi => by simp [D.len] at hi
  | .fn .., _, _, _, hi => by simp [D.len] at hi
  | .sl .., _, _, _, hi => by simp [D.len] at hi
  | .any, _, _, _, hi => by simp [D.len] at hi
  | .ptr .., _, _, _, hi => by simp [D.len] at hi
  | .clp .., _, _, _, hi => by simp [D.len] at hi
  | .ifc .., _, _, _, hi => by simp [D.len] at hi
def D.wf : D → Prop
  | .cons a b => a.wf ∧ b.wf
  | .agg c => c.wf
  | .tup c => c.wf
  | .list _ f _ xs => xs.length ≤ 140737488355328 ∧ ∀ x ∈ xs, (f x).wf
  | .sl _ d => d.wf
  | .ptr d => d.wf
  | .clp d => d.wf
  | .ifc _ d => d.wf
  | _ => True

theorem R_wf {P : Program} : ∀ (d : D) {ok : Nat → Prop} {w : World} {vs : List Value}, R P d ok w vs → d.wf := by
  intro d
  induction d with
  | cons a b iha ihb => intro ok w vs h; obtain ⟨v, vs', rfl, h1, h2, h3⟩ := h; exact ⟨iha h2, ihb h3⟩
  | agg c ih => intro ok w vs h; exact ih h
  | tup c ih => intro ok w vs h; obtain ⟨ws, rfl, h1⟩ := h; exact ih h1
  | sl b d ih => intro ok w vs h; exact ih h.1
  | ptr d ih => intro ok w vs h; obtain ⟨p, cs, rfl, _, _, _, _, h1⟩ := h; exact ih h1
  | clp d ih => intro ok w vs h; exact ih h.1
  | ifc T d ih => intro ok w vs h; obtain ⟨v, rfl, _, h1⟩ := h; exact ih h1
  | list s f z xs ih =>
    intro ok w vs h
    obtain ⟨a, cap, rfl, h1, h2, h3, h4⟩ := h
    refine ⟨h3, fun x hx => ?_⟩
    obtain ⟨i, hi, rfl⟩ := List.getElem_of_mem hx
    obtain ⟨p, cs, _, _, _, _, _, _, hr⟩ := h4 i hi
    exact ih _ hr
  | _ => intro ok w vs h; trivial

theorem AW.wf {P : Program} {n : Nm} {c : Code} {s : St} {Q : Exit → St → Prop} (x : Operand) {d : D} (hx : ev s x = .val d) (h : d.wf → AW P n c s Q) : AW P n c s Q := by
  rintro r X a w hX ⟨β, ν, hr⟩
  have := hr.eval x
  rw [hx] at this
  obtain ⟨v, _, hv⟩ := this
  exact h (R_wf d hv.2) r X a w hX ⟨β, ν, hr⟩

section
variable {P : Program} {s : St} {o : Oper} {X : Cx} {t : St} {a : Act} {w : World} {β : Nat → Option Nat} {ν : Nat → Value}

theorem vr_list {ok : Nat → Prop} {sz : Nat} {α : Type} {f : α → D} {z : α} {xs : List α} {v : Value} (h : VR P ok w s β ν (.val (.list sz f z xs)) [v]) :
    ∃ a cap, v = .slice a xs.length cap ∧ xs.length ≤ cap ∧ cap ≤ maxLen ∧ xs.length ≤ 140737488355328 ∧
      ∀ i (h : i < xs.length), ∃ p cs, a = some p ∧ p.spot = none ∧ ok p.block ∧ cs.length = sz ∧ (∀ c ∈ cs, c.oneCell' = true) ∧ cellsAt w p.block (p.off + i * sz) cs ∧ R P (f xs[i]) ok w cs := by
  obtain ⟨u, e, h1, h2⟩ := h
  simp only [List.cons.injEq, and_true] at e
  subst e
  have hv := (RV_one (d := .list sz f z xs) rfl ⟨h1, h2⟩).1
  obtain ⟨a, cap, e, h3⟩ := hv
  simp only [List.cons.injEq, and_true] at e
  exact ⟨a, cap, e, h3⟩

theorem p_len {x : Operand} {T e : TypeId} {sz : Nat} {α : Type} {f : α → D} {z : α} {xs : List α} (ho : o.op = .call { callee := .builtin .len, args := #[x], argTypes := #[T] }) (hT : IsSlice P T e)
    (hx : Sees (ev s x) (.val (.list sz f z xs))) : PStep P o (kx x) s (.val (.int .i64 xs.length)) := by
  intro X t a w β ν hk hr
  obtain ⟨ad, cap, hv, _⟩ := vr_list (hr.sees hk hx)
  refine ⟨rfl, .int .i64 xs.length, ?_, mk_int _ _ _⟩
  unfold IsSlice at hT
  simp [execOp, ho, resolve, invoke, builtin, Builtin.len_, run_underlying' hT, hv, goInt]

theorem Sees.emp {a : AV} (e : a = .emp) (sz : Nat) {α : Type} (f : α → D) (z : α) : Sees a (.val (.list sz f z [])) := by
  subst e
  intro P ok w s β ν v hv
  simp only [VR, List.cons.injEq, and_true] at hv
  subst hv
  exact ⟨_, rfl, rfl, none, 0, rfl, Nat.le_refl _, Nat.zero_le _, Nat.zero_le _, fun i hi => by simp at hi⟩

theorem Addr.add_none {p : Addr} (h : p.spot = none) (n : Nat) : p.add n = ⟨p.block, p.off + n, none⟩ := by
  unfold Addr.add
  split
  · rename_i h0; subst h0; cases p; simp_all
  · rfl

theorem p_index {x i : Operand} {T e sz : Nat} {k : IntKind} {m : Int} {α : Type} {f : α → D} {z : α} {xs : List α} (ho : o.op = .indexAddr T x i) (hT : IsSlice P T e) (hs : Size P e sz)
    (hx : Sees (ev s x) (.val (.list sz f z xs))) (hi : Sees (ev s i) (.val (.int k m))) (h0 : 0 ≤ m) (h1 : m < xs.length) : PStep P o (kx x ++ kx i) s (.ptr (f (xs.getD m.toNat z))) := by
  intro X t a w β ν hk hr
  obtain ⟨ad, cap, hv, _, _, _, hc⟩ := vr_list (hr.sees (kl hk) hx)
  have hlt : m.toNat < xs.length := by omega
  obtain ⟨p, cs, rfl, hp, hok, hl, h1c, hcell, hR⟩ := hc m.toNat hlt
  refine ⟨rfl, .pointer (some (p.add (m.toNat * sz))), ?_, ?_⟩
  · unfold IsSlice at hT
    have := hr.int (kr hk) hi
    simp [execOp, ho, Instr.indexAt, this, hv, asIntOf, run_underlying' hT, run_sizeOf hs, h0, h1]
  · rw [Addr.add_none hp]
    refine ⟨_, cs, rfl, rfl, hok, h1c, hcell, ?_⟩
    have : xs.getD m.toNat z = xs[m.toNat] := by simp [List.getD, hlt]
    rw [this]
    exact hR

theorem p_indexN {x i : Operand} {T e sz : Nat} {k : IntKind} {m : Nat} {α : Type} {f : α → D} {z : α} {xs : List α} (ho : o.op = .indexAddr T x i) (hT : IsSlice P T e) (hs : Size P e sz)
    (hx : Sees (ev s x) (.val (.list sz f z xs))) (hi : Sees (ev s i) (.val (.int k (m : Int)))) (h1 : m < xs.length) : PStep P o (kx x ++ kx i) s (.ptr (f (xs.getD m z))) := by
  have := p_index (P := P) ho hT hs hx hi (by omega) (by omega)
  simpa using this

theorem vr_ptr {ok : Nat → Prop} {d : D} {v : Value} (h : VR P ok w s β ν (.ptr d) [v]) : ∃ p cs, v = .pointer (some p) ∧ p.spot = none ∧ ok p.block ∧ (∀ c ∈ cs, c.oneCell' = true) ∧ cellsAt w p.block p.off cs ∧ R P d ok w cs := by
  obtain ⟨p, cs, e, h⟩ := h
  simp only [List.cons.injEq, and_true] at e
  exact ⟨p, cs, e, h⟩
theorem p_load {x : Operand} {T : TypeId} {d : D} (ho : o.op = .load T x) (hT : IsAgg P T false) (hx : Sees (ev s x) (.ptr d)) (hd : d.one = true) : PStep P o (kx x) s (.val d) := by
  intro X t a w β ν hk hr
  obtain ⟨p, cs, hv, hp, hok, h1c, hcell, hR⟩ := vr_ptr (hr.sees hk hx)
  obtain ⟨v, rfl, hvr⟩ := R_one hd hR
  refine ⟨rfl, v, ?_, ⟨v, rfl, hvr⟩⟩
  have hc := hcell 0 (by simp)
  have : (⟨p.block, p.off + 0, none⟩ : Addr) = p := by cases p; simp_all
  rw [this] at hc
  simp [execOp, ho, Instr.loadAt, hv, Instr.sureAddr, loadVar, run_isAgg hT, hc]
theorem p_loadS {x : Operand} {T k : Nat} {c : D} (ho : o.op = .load T x) (hT : IsAgg P T true) (hs : Size P T k) (hx : Sees (ev s x) (.ptr (.agg c))) (hk' : c.len = k ∧ ∀ {P : Program} {ok : Nat → Prop} {w : World} {cs : List Value}, R P c ok w cs → cs.length = k) :
    PStep P o (kx x) s (.val (.agg c)) := by
  intro X t a w β ν hk hr
  obtain ⟨p, cs, hv, hp, hok, h1c, hcell, hR⟩ := vr_ptr (hr.sees hk hx)
  have hl := hk'.2 hR
  subst hl
  refine ⟨rfl, .agg cs.toArray, ?_, ⟨_, rfl, rfl, by simpa [Value.cells] using hR⟩⟩
  have hlc := run_loadCells_list (P := P) w p cs (fun j v hj => by
    obtain ⟨hj', rfl⟩ := List.getElem?_eq_some_iff.1 hj
    rw [Addr.add_none hp]
    exact hcell j hj')
  simp [execOp, ho, Instr.loadAt, hv, Instr.sureAddr, loadVar, run_isAgg hT, run_sizeOf hs, hlc]

theorem p_fieldAddr {x : Operand} {T i off ft k : Nat} {c : D} (ho : o.op = .fieldAddr T x i) (hF : IsField P T i off ft) (hs : Size P ft k) (hk0 : 0 < k) (hx : Sees (ev s x) (.ptr (.agg c))) (hi : Nat.blt off c.len = true) (hd : (c.nth off).one = true) :
    PStep P o (kx x) s (.ptr (c.nth off)) := by
  replace hi := blt_lt hi
  intro X t a w β ν hk hr
  obtain ⟨p, cs, hv, hp, hok, h1c, hcell, hR⟩ := vr_ptr (hr.sees hk hx)
  obtain ⟨v, hcv, hvr⟩ := R_nth c off hR hi
  obtain ⟨hoff, rfl⟩ := List.getElem?_eq_some_iff.1 hcv
  refine ⟨rfl, .pointer (some (p.add off)), ?_, ?_⟩
  · unfold IsField at hF
    obtain ⟨dsc, h1, h2⟩ := Option.bind_eq_some_iff.1 hF
    cases dsc <;> simp at h2
    rename_i fs
    obtain ⟨fld, h3, h4, h5⟩ := h2
    subst h4 h5
    simp [execOp, ho, Instr.fieldAt, hv, Instr.sureAddr, run_underlying' h1, h3, fieldPlace, run_sizeOf hs, Nat.ne_of_gt hk0]
  · rw [Addr.add_none hp]
    refine ⟨_, [cs[off]], rfl, rfl, hok, fun c hc => h1c c (by simp at hc; subst hc; exact List.getElem_mem _), ?_, (RV_one hd hvr).1⟩
    intro j hj
    obtain rfl : j = 0 := by simp at hj; omega
    simpa using hcell off hoff

theorem p_extract {x : Operand} {i : Nat} {c : D} (ho : o.op = .extract x i) (hx : Sees (ev s x) (.val (.tup c))) (hi : Nat.blt i c.len = true) : PStep P o (kx x) s (.val (c.nth i)) := by
  replace hi := blt_lt hi
  intro X t a w β ν hk hr
  obtain ⟨v, e, h1, h2⟩ := hr.sees hk hx
  simp only [List.cons.injEq, and_true] at e
  subst e
  obtain ⟨ws, hws, hR⟩ := h2
  have : a.eval x = .tuple ws := by
    generalize a.eval x = u at h1 hws
    cases u <;> simp_all [Value.cells, vAgg, D.isAgg]
  obtain ⟨u, hu, hur⟩ := R_nth c i hR hi
  refine ⟨rfl, u, ?_, ⟨u, rfl, hur⟩⟩
  have hu' : ws[i]? = some u := by simpa using hu
  simp [execOp, ho, Instr.extract, this, hu']

def Bnd (s : St) (q : Option Operand) (dflt l : Nat) : Prop :=
  match q with
  | none => l = dflt
  | some q => Sees (ev s q) (.val (.int .i64 l))
theorem p_slice {x : Operand} {lo hi : Option Operand} {T e sz : Nat} {l h : Nat} {α : Type} {f : α → D} {z : α} {xs : List α} (ho : o.op = .slice T x lo hi none) (hT : IsSlice P T e) (hs : Size P e sz)
    (hx : Sees (ev s x) (.val (.list sz f z xs))) (hlo : Bnd s lo 0 l) (hhi : Bnd s hi xs.length h)
    (h1 : l ≤ h) (h2 : h ≤ xs.length) : PStep P o (kx x ++ (lo.elim [] kx ++ hi.elim [] kx)) s (.val (.list sz f z ((xs.drop l).take (h - l)))) := by
  intro X t a w β ν hk hr
  obtain ⟨ad, cap, hv, hcap, hmax, hlim, hc⟩ := vr_list (hr.sees (kl hk) hx)
  have hlen : ((xs.drop l).take (h - l)).length = h - l := by simp; omega
  refine ⟨rfl, .slice (if cap = l then ad else ad.map (·.add (l * sz))) (h - l) (cap - l), ?_, ?_⟩
  · have hlo' : ∀ q, lo = some q → a.eval q = .int .i64 l := by
      rintro q rfl
      exact hr.int (fun k hk' => hk k (by simp [hk'])) hlo
    have hhi' : ∀ q, hi = some q → a.eval q = .int .i64 h := by
      rintro q rfl
      exact hr.int (fun k hk' => hk k (by simp [hk'])) hhi
    have hT' : P.underlying T = some (.slice e) := hT
    have e1 : ¬ h < l := by omega
    have e2 : ¬ cap < h := by omega
    have e3 : ¬ xs.length < l := by omega
    cases lo with
    | none =>
      simp only [Bnd] at hlo
      subst hlo
      cases hi with
      | none => simp only [Bnd] at hhi; subst hhi; simp [execOp, ho, Instr.sliceAt, Instr.slice, Instr.sliceBounds, run_underlying' hT', run_sizeOf hs, hv]
      | some q => simp [execOp, ho, Instr.sliceAt, Instr.slice, Instr.sliceBounds, Instr.sliceBound, asIntOf, run_underlying' hT', run_sizeOf hs, hv, hhi' q rfl]; intro hh; exact absurd hh e2
    | some q' =>
      cases hi with
      | none => simp only [Bnd] at hhi; subst hhi; simp [execOp, ho, Instr.sliceAt, Instr.slice, Instr.sliceBounds, Instr.sliceBound, asIntOf, run_underlying' hT', run_sizeOf hs, hv, hlo' q' rfl, h1]
      | some q => simp [execOp, ho, Instr.sliceAt, Instr.slice, Instr.sliceBounds, Instr.sliceBound, asIntOf, run_underlying' hT', run_sizeOf hs, hv, hlo' q' rfl, hhi' q rfl, h1, Nat.le_of_not_lt e2]
  · refine ⟨_, rfl, rfl, _, cap - l, by rw [hlen]; rfl, by rw [hlen]; omega, by omega, by rw [hlen]; omega, fun i hi => ?_⟩
    rw [hlen] at hi
    obtain ⟨p, cs, rfl, hp, hok, hl, h1c, hcell, hR⟩ := hc (l + i) (by omega)
    refine ⟨⟨p.block, p.off + l * sz, none⟩, cs, ?_, rfl, hok, hl, h1c, ?_, ?_⟩
    · rw [if_neg (by omega)]
      simp [Addr.add_none hp]
    · rw [Nat.add_mul, ← Nat.add_assoc] at hcell
      exact hcell
    · simpa using hR
end
end Go.Um

/- Variables in memory: boxes that a call makes, loads and stores there; structs built. No condition. -/

namespace Go.Um
open Go Go.RowKit

def newVer : AV → Nat
  | .dead u => u + 1
  | .box u _ => u + 1
  | .arr u .. => u + 1
  | .mp u .. => u + 1
  | .tl u .. => u + 1
  | _ => 0

theorem newVer_gt {x : AV} {k : Nat} (h : ver x = some k) : k < newVer x := by cases x <;> simp_all [ver, newVer]
def Kill (t t1 : St) : Prop := ∀ o, t1 o = t o ∨ ∃ u, ver (t o) = some u ∧ t1 o = .dead u

theorem Kill.refl (t : St) : Kill t t := fun _ => .inl rfl
theorem Kill.one {t : St} {o u : Nat} (h : ver (t o) = some u) : Kill t (upd t o (.dead u)) := by
  intro k
  by_cases e : k = o
  · subst e; right; exact ⟨u, h, upd_same ..⟩
  · left; exact upd_ne t _ e

def updF {α : Type} (f : Nat → α) (k : Nat) (x : α) : Nat → α := fun t => if t = k then x else f t
theorem updF_same {α : Type} (f : Nat → α) (k : Nat) (x : α) : updF f k x k = x := by simp [updF]
theorem updF_ne {α : Type} (f : Nat → α) {k t : Nat} (x : α) (h : t ≠ k) : updF f k x t = f t := by simp [updF, h]
theorem RelB.newObj {P : Program} {X : Cx} {t t1 : St} {a : Act} {w w' : World} {β : Nat → Option Nat} {ν : Nat → Value} (hr : RelB P X t a w β ν) (hkill : Kill t t1) {ob d : Nat} {y x : AV} {v nv : Value} {bt : Option Nat}
    (h4 : 10000 ≤ ob) (hdn : d < X.n) (hd4 : d < 10000) (hos : w'.os = w.os) (htape : w'.tape = w.tape) (hout : w'.output = w.output ∧ w.drawn ≤ w'.drawn) (hsize : w.heap.size ≤ w'.heap.size)
    (hblk : ∀ b, b < w.heap.size → w'.heap[b]? = w.heap[b]? ∨ ∃ o, live (t o) = true ∧ live (t1 o) = false ∧ β o = some b)
    (hbt : ∀ b, bt = some b → (w.heap.size ≤ b ∧ b < w'.heap.size) ∨ ∃ o, live (t o) = true ∧ live (t1 o) = false ∧ β o = some b)
    (hver : ver y = some (newVer (t1 ob))) (hx : ver x = none)
    (hor : (∀ b, okAt X t β w b → okAt X (upd (upd t1 ob y) d x) (updF β ob bt) w' b ∧ w'.heap[b]? = w.heap[b]?) → Goes t (upd (upd t1 ob y) d x) β (updF β ob bt) ν (updF ν ob nv) →
      OR P (okAt X (upd (upd t1 ob y) d x) (updF β ob bt) w') w' (upd (upd t1 ob y) d x) (updF β ob bt) (updF ν ob nv) ob y ∧
      VR P (okAt X (upd (upd t1 ob y) d x) (updF β ob bt) w') w' (upd (upd t1 ob y) d x) (updF β ob bt) (updF ν ob nv) x [v]) :
    RelB P X (upd (upd t1 ob y) d x) (a.put (some d) v) w' (updF β ob bt) (updF ν ob nv) := by
  have hne : d ≠ ob := by omega
  have hs : ∀ o, o ≠ ob → o ≠ d → upd (upd t1 ob y) d x o = t1 o := fun o h1 h2 => by rw [upd_ne _ _ h2, upd_ne _ _ h1]
  have hsob : upd (upd t1 ob y) d x ob = y := by rw [upd_ne _ _ (Ne.symm hne), upd_same]
  have hsd : upd (upd t1 ob y) d x d = x := upd_same ..
  have hlk : ∀ o, live (t1 o) = true → t1 o = t o := fun o hl => by
    rcases hkill o with h | ⟨u, _, h⟩
    · exact h
    · rw [h] at hl; cases hl
  have hlive' : ∀ o, o ≠ ob → live (upd (upd t1 ob y) d x o) = true → t1 o = t o ∧ upd (upd t1 ob y) d x o = t o ∧ o ≠ d := by
    intro o ho hl
    have hod : o ≠ d := by rintro rfl; rw [hsd, live_ver hx] at hl; cases hl
    rw [hs o ho hod] at hl
    exact ⟨hlk o hl, by rw [hs o ho hod, hlk o hl], hod⟩
  have hgoes : Goes t (upd (upd t1 ob y) d x) β (updF β ob bt) ν (updF ν ob nv) := by
    intro o k hk
    by_cases e : o = ob
    · subst e
      refine ⟨newVer (t1 o), by rw [hsob]; exact hver, ?_, ?_⟩
      · rcases hkill o with h | ⟨u, h1, h2⟩
        · rw [h]; exact Nat.le_of_lt (newVer_gt hk)
        · rw [h2]; rw [hk] at h1; cases h1; exact Nat.le_succ _
      · intro e'
        exfalso
        rcases hkill o with h | ⟨u, h1, h2⟩
        · rw [h] at e'; have := newVer_gt hk; omega
        · rw [h2] at e'; rw [hk] at h1; cases h1; simp [newVer] at e'
    · have hod : o ≠ d := by rintro rfl; rw [hr.keys o hd4] at hk; cases hk
      refine ⟨k, ?_, Nat.le_refl _, fun _ hl => ?_⟩
      · rw [hs o e hod]
        rcases hkill o with h | ⟨u, h1, h2⟩
        · rw [h]; exact hk
        · rw [h2]; rw [hk] at h1; cases h1; rfl
      · obtain ⟨h1, h2, h3⟩ := hlive' o e hl
        exact ⟨by rw [← h2]; exact hl, updF_ne _ _ e, updF_ne _ _ e⟩
  have hok : ∀ b, okAt X t β w b → okAt X (upd (upd t1 ob y) d x) (updF β ob bt) w' b ∧ w'.heap[b]? = w.heap[b]? := by
    intro b hb
    refine ⟨⟨hb.1, Nat.lt_of_lt_of_le hb.2.1 hsize, fun o hl => ?_⟩, ?_⟩
    · by_cases e : o = ob
      · subst e
        rw [updF_same]
        intro hbe
        rcases hbt b hbe with h | ⟨o', h1, _, h3⟩
        · have := hb.2.1; omega
        · exact hb.2.2 o' h1 h3
      · rw [updF_ne _ _ e]
        obtain ⟨_, h2, _⟩ := hlive' o e hl
        exact hb.2.2 o (by rw [← h2]; exact hl)
    · rcases hblk b hb.2.1 with h | ⟨o, h1, _, h3⟩
      · exact h
      · exact absurd h3 (hb.2.2 o h1)
  obtain ⟨hor1, hor2⟩ := hor hok hgoes
  refine hr.move hos htape hout hsize ?_ hok hgoes ?_ ?_ ?_ ?_ ?_ (put_size ..) ?_ (fun hv => .inl (by
    have h1 : (29999 : Nat) ≠ ob := by intro e; rw [e, hsob, hver] at hv; cases hv
    rw [hs _ h1 (by omega)] at hv ⊢
    rcases hkill 29999 with h | ⟨u, _, h⟩
    · exact h
    · rw [h] at hv; cases hv))
  · intro b hb hn
    rcases hblk b (Nat.lt_of_lt_of_le hb hr.size) with h | ⟨o, h1, _, h3⟩
    · exact h
    · rcases (hr.own o b h1 h3).1 with h | h
      · omega
      · exact absurd h hn
  · intro o b hl hb
    by_cases e : o = ob
    · subst e
      rw [updF_same] at hb
      right
      rcases hbt b hb with h | ⟨o', h1, _, h3⟩
      · exact ⟨.inl (Nat.le_trans hr.size h.1), h.2⟩
      · exact ⟨(hr.own o' b h1 h3).1, Nat.lt_of_lt_of_le (hr.own o' b h1 h3).2 hsize⟩
    · rw [updF_ne _ _ e] at hb
      obtain ⟨_, h2, _⟩ := hlive' o e hl
      exact .inl ⟨by rw [← h2]; exact hl, hb⟩
  · intro o o' b hl hl' hb hb'
    by_cases e : o = ob
    · by_cases e' : o' = ob
      · rw [e, e']
      · subst e
        rw [updF_same] at hb
        rw [updF_ne _ _ e'] at hb'
        obtain ⟨h1, h2, _⟩ := hlive' o' e' hl'
        have hl2 : live (t o') = true := by rw [← h2]; exact hl'
        rcases hbt b hb with h | ⟨o2, g1, g2, g3⟩
        · have := (hr.own o' b hl2 hb').2; omega
        · have := hr.inj o2 o' b g1 hl2 g3 hb'
          subst this
          rw [h1, hl2] at g2
          cases g2
    · rw [updF_ne _ _ e] at hb
      obtain ⟨h1, h2, _⟩ := hlive' o e hl
      have hl1 : live (t o) = true := by rw [← h2]; exact hl
      by_cases e' : o' = ob
      · subst e'
        rw [updF_same] at hb'
        rcases hbt b hb' with h | ⟨o2, g1, g2, g3⟩
        · have := (hr.own o b hl1 hb).2; omega
        · have := hr.inj o2 o b g1 hl1 g3 hb
          subst this
          rw [h1, hl1] at g2
          cases g2
      · rw [updF_ne _ _ e'] at hb'
        obtain ⟨_, h2', _⟩ := hlive' o' e' hl'
        exact hr.inj o o' b hl1 (by rw [← h2']; exact hl') hb hb'
  · intro o hl
    by_cases e : o = ob
    · subst e; right; rw [hsob]; exact hor1
    · left
      obtain ⟨h1, h2, _⟩ := hlive' o e hl
      refine ⟨h2, updF_ne _ _ e, updF_ne _ _ e, fun b hb => ?_⟩
      have hl2 : live (t o) = true := by rw [← h2]; exact hl
      rcases hblk b (hr.own o b hl2 hb).2 with h | ⟨o2, g1, g2, g3⟩
      · exact h
      · have := hr.inj o2 o b g1 hl2 g3 hb
        subst this
        rw [h1, hl2] at g2
        cases g2
  · intro k hk
    by_cases e : k = d
    · subst e; right; rw [hsd, put_get_same v (by rw [hr.tmps]; exact hdn)]; exact hor2
    · have hko : k ≠ ob := by omega
      left
      refine ⟨?_, put_get_ne a v e⟩
      rw [hs k hko e]
      rcases hkill k with h | ⟨u, h1, _⟩
      · exact h
      · rw [hr.keys k hk] at h1; cases h1
  · intro k hk
    by_cases e : k = d
    · subst e; rw [hsd]; exact hx
    · have hko : k ≠ ob := by omega
      rw [hs k hko e]
      rcases hkill k with h | ⟨u, h1, _⟩
      · rw [h]; exact hr.keys k hk
      · rw [hr.keys k hk] at h1; cases h1
  · rw [put_defers]

theorem ovr_two {t s : St} {d ob : Nat} {x y : AV} (h : d ≠ ob) : ovr t [d, ob] (upd (upd s ob y) d x) = upd (upd t ob y) d x := by
  funext k
  by_cases e : k = d
  · subst e; simp [ovr, upd_same]
  · by_cases e' : k = ob
    · subst e'; simp [ovr, upd_ne _ _ e, upd_same]
    · simp [ovr, e, e', upd_ne _ _ e, upd_ne _ _ e']

theorem off_two {s : St} {d ob : Nat} {x y : AV} (k : Nat) (h : k ∉ [d, ob]) : upd (upd s ob y) d x k = s k := by
  simp only [List.mem_cons, List.not_mem_nil, or_false, not_or] at h
  rw [upd_ne _ _ h.1, upd_ne _ _ h.2]
def D.toAV : D → AV
  | .cons a b => .ccons (.val a) b.toAV
  | _ => .cnil
def D.flat1 : D → Bool
  | .nil => true
  | .cons a b => a.one && b.flat1
  | _ => false

theorem R_toAV {P : Program} {ok : Nat → Prop} {w : World} {s : St} {β : Nat → Option Nat} {ν : Nat → Value} : ∀ (c : D) {cs : List Value}, c.flat1 = true → R P c ok w cs →
    VR P ok w s β ν c.toAV cs ∧ (∀ v ∈ cs, v.oneCell' = true) ∧ cs.length = c.len
  | .nil, cs, _, h => by simp only [R] at h; subst h; simp [D.toAV, VR, D.len]
  | .cons a b, cs, hf, h => by
    simp only [D.flat1, Bool.and_eq_true] at hf
    obtain ⟨v, vs, rfl, h1, h2, h3⟩ := h
    obtain ⟨g1, g2, g3⟩ := R_toAV (s := s) (β := β) (ν := ν) b hf.2 h3
    refine ⟨⟨v, vs, rfl, ⟨v, rfl, h1, h2⟩, g1⟩, ?_, by simp [D.len, g3]⟩
    intro u hu
    rcases List.mem_cons.1 hu with rfl | hu
    · exact (RV_one hf.1 ⟨h1, h2⟩).2
    · exact g2 u hu
  | .int .., _, hf, _ => by cases hf
  | .bool .., _, hf, _ => by cases hf
  | .str .., _, hf, _ => by cases hf
  | .agg .., _, hf, _ => by cases hf
  | .tup .., _, hf, _ => by cases hf
  | .list .., _, hf, _ => by cases hf
  | .fn .., _, hf, _ => by cases hf
def AV.toD : AV → D
  | .ccons (.val a) b => .cons a b.toD
  | _ => .nil
def AV.isD : AV → Bool
  | .cnil => true
  | .ccons (.val a) b => a.one && b.isD
  | _ => false
def AV.len : AV → Nat
  | .ccons _ b => b.len + 1
  | _ => 0
def AV.nth : AV → Nat → AV
  | .ccons a _, 0 => a
  | .ccons _ b, i + 1 => b.nth i
  | _, _ => .any
def AV.set : AV → Nat → AV → AV
  | .ccons _ b, 0, x => .ccons x b
  | .ccons a b, i + 1, x => .ccons a (b.set i x)
  | c, _, _ => c
def AV.chain : AV → Bool
  | .cnil => true
  | .ccons _ b => b.chain
  | _ => false

section
variable {P : Program} {ok : Nat → Prop} {w : World} {s : St} {β : Nat → Option Nat} {ν : Nat → Value}

theorem VR_toD : ∀ (c : AV) {cs : List Value}, c.isD = true → VR P ok w s β ν c cs → R P c.toD ok w cs ∧ c.toD.flat1 = true ∧ cs.length = c.len
  | .cnil, cs, _, h => by simp only [VR] at h; subst h; simp [AV.toD, R, D.flat1, AV.len]
  | .ccons x b, cs, hf, h => by
    cases x with
    | val a =>
      simp only [AV.isD, Bool.and_eq_true] at hf
      obtain ⟨v, vs, rfl, ⟨u, e, h1⟩, h2⟩ := h
      simp only [List.cons.injEq, and_true] at e
      subst e
      obtain ⟨g1, g2, g3⟩ := VR_toD b hf.2 h2
      exact ⟨⟨v, vs, rfl, h1.1, h1.2, g1⟩, by simp [AV.toD, D.flat1, hf.1, g2], by simp [AV.len, g3]⟩
    | _ => cases hf
  | .any, _, hf, _ => by cases hf
  | .val .., _, hf, _ => by cases hf
  | .emp, _, hf, _ => by cases hf
  | .ptr .., _, hf, _ => by cases hf
  | .ref .., _, hf, _ => by cases hf
  | .elt .., _, hf, _ => by cases hf
  | .sub .., _, hf, _ => by cases hf
  | .etl .., _, hf, _ => by cases hf
  | .bsl .., _, hf, _ => by cases hf
  | .row .., _, hf, _ => by cases hf
  | .clo .., _, hf, _ => by cases hf
  | .sv .., _, hf, _ => by cases hf
  | .gv .., _, hf, _ => by cases hf
  | .dead .., _, hf, _ => by cases hf
  | .box .., _, hf, _ => by cases hf
  | .arr .., _, hf, _ => by cases hf
  | .mp .., _, hf, _ => by cases hf
  | .tl .., _, hf, _ => by cases hf

theorem VR_nth : ∀ (c : AV) {cs : List Value} (i : Nat), VR P ok w s β ν c cs → i < c.len → ∃ v, cs[i]? = some v ∧ VR P ok w s β ν (c.nth i) [v]
  | .ccons a b, cs, i, h, hi => by
    obtain ⟨v, vs, rfl, h1, h2⟩ := h
    cases i with
    | zero => exact ⟨v, rfl, h1⟩
    | succ i => exact VR_nth b i h2 (by simpa [AV.len] using hi)
  | .cnil, _, _, _, hi => by simp [AV.len] at hi
  | .any, _, _, _, hi => by simp [AV.len] at hi
  | .val .., _, _, _, hi => by simp [AV.len] at hi
  | .emp, _, _, _, hi => by simp [AV.len] at hi
  | .ptr .., _, _, _, hi => by simp [AV.len] at hi
  | .ref .., _, _, _, hi => by simp [AV.len] at hi
  | .elt .., _, _, _, hi => by simp [AV.len] at hi
  | .sub .., _, _, _, hi => by simp [AV.len] at hi
  | .etl .., _, _, _, hi => by simp [AV.len] at hi
  | .bsl .., _, _, _, hi => by simp [AV.len] at hi
  | .row .., _, _, _, hi => by simp [AV.len] at hi
  | .clo .., _, _, _, hi => by simp [AV.len] at hi
  | .sv .., _, _, _, hi => by simp [AV.len] at hi
  | .gv .., _, _, _, hi => by simp [AV.len] at hi
  | .dead .., _, _, _, hi => by simp [AV.len] at hi
  | .box .., _, _, _, hi => by simp [AV.len] at hi
  | .arr .., _, _, _, hi => by simp [AV.len] at hi
  | .mp .., _, _, _, hi => by simp [AV.len] at hi
  | .tl .., _, _, _, hi => by simp [AV.len] at hi

theorem VR_set : ∀ (c : AV) {cs : List Value} (i : Nat) (x : AV) (v : Value), VR P ok w s β ν c cs → i < c.len → VR P ok w s β ν x [v] → VR P ok w s β ν (c.set i x) (cs.set i v)
  | .ccons a b, cs, i, x, v, h, hi, hx => by
    obtain ⟨u, vs, rfl, h1, h2⟩ := h
    cases i with
    | zero => exact ⟨v, vs, rfl, hx, h2⟩
    | succ i => exact ⟨u, vs.set i v, rfl, h1, VR_set b i x v h2 (by simpa [AV.len] using hi) hx⟩
  | .cnil, _, _, _, _, _, hi, _ => by simp [AV.len] at hi
  | .any, _, _, _, _, _, hi, _ => by simp [AV.len] at hi
  | .val .., _, _, _, _, _, hi, _ => by simp [AV.len] at hi
  | .emp, _, _, _, _, _, hi, _ => by simp [AV.len] at hi
  | .ptr .., _, _, _, _, _, hi, _ => by simp [AV.len] at hi
  | .ref .., _, _, _, _, _, hi, _ => by simp [AV.len] at hi
  | .elt .., _, _, _, _, _, hi, _ => by simp [AV.len] at hi
  | .sub .., _, _, _, _, _, hi, _ => by simp [AV.len] at hi
  | .etl .., _, _, _, _, _, hi, _ => by simp [AV.len] at hi
  | .bsl .., _, _, _, _, _, hi, _ => by simp [AV.len] at hi
  | .row .., _, _, _, _, _, hi, _ => by simp [AV.len] at hi
  | .clo .., _, _, _, _, _, hi, _ => by simp [AV.len] at hi
  | .sv .., _, _, _, _, _, hi, _ => by simp [AV.len] at hi
  | .gv .., _, _, _, _, _, hi, _ => by simp [AV.len] at hi
  | .dead .., _, _, _, _, _, hi, _ => by simp [AV.len] at hi
  | .box .., _, _, _, _, _, hi, _ => by simp [AV.len] at hi
  | .arr .., _, _, _, _, _, hi, _ => by simp [AV.len] at hi
  | .mp .., _, _, _, _, _, hi, _ => by simp [AV.len] at hi
  | .tl .., _, _, _, _, _, hi, _ => by simp [AV.len] at hi
end

end Go.Um

/- The rules for variables in memory and for structs. No condition. -/

namespace Go.Um
open Go Go.RowKit

theorem oneCell_of_VR {P : Program} {ok : Nat → Prop} {w : World} {s : St} {β : Nat → Option Nat} {ν : Nat → Value} {d : D} {v : Value} (hd : d.one = true) (h : VR P ok w s β ν (.val d) [v]) : v.oneCell' = true := by
  obtain ⟨u, e, h⟩ := h
  simp only [List.cons.injEq, and_true] at e
  subst e
  exact (RV_one hd h).2

section
variable {P : Program} {n : Nat} {ops : Array Oper} {s : St} {o : Oper}

theorem heap_new (w : World) (ob : Obj) : (w.alloc ob).heap[w.heap.size]? = some ob := by
  show (w.heap.push ob)[w.heap.size]? = _
  simp
def boxOf : AV → AV
  | .val (.agg c) => c.toAV
  | .sv c => c
  | x => .ccons x .cnil
def boxOk : AV → Bool
  | .val (.agg c) => c.flat1
  | .val d => d.one
  | .emp => true
  | .clo .. => true
  | .sv _ => true
  | _ => false

theorem boxed {ok : Nat → Prop} {w : World} {t : St} {β : Nat → Option Nat} {ν : Nat → Value} {x : AV} {v : Value} (hb : boxOk x = true) (h : VR P ok w t β ν x [v]) :
    VR P ok w t β ν (boxOf x) v.cells.toList ∧ ∀ c ∈ v.cells.toList, c.oneCell' = true := by
  have one : ∀ {x : AV}, v.oneCell' = true → VR P ok w t β ν x [v] → VR P ok w t β ν (.ccons x .cnil) v.cells.toList ∧ ∀ c ∈ v.cells.toList, c.oneCell' = true := by
    intro x h1 h2
    have : v.cells.toList = [v] := by cases v <;> simp_all [Value.cells, Value.oneCell']
    rw [this]
    exact ⟨⟨v, [], rfl, h2, rfl⟩, by simpa using h1⟩
  cases x with
  | val d =>
    cases d with
    | agg c =>
      obtain ⟨u, e, h1, h2⟩ := h
      simp only [List.cons.injEq, and_true] at e
      subst e
      have := R_toAV (s := t) (β := β) (ν := ν) c hb h2
      exact ⟨this.1, this.2.1⟩
    | int k m => exact one (oneCell_of_VR rfl h) h
    | bool b => exact one (oneCell_of_VR rfl h) h
    | str b => exact one (oneCell_of_VR rfl h) h
    | list sz f z xs => exact one (oneCell_of_VR rfl h) h
    | fn f g => exact one (oneCell_of_VR rfl h) h
    | sl b d => exact one (oneCell_of_VR rfl h) h
    | any => exact one (oneCell_of_VR rfl h) h
    | ptr d => exact one (oneCell_of_VR rfl h) h
    | clp d => exact one (oneCell_of_VR rfl h) h
    | ifc T d => exact one (oneCell_of_VR rfl h) h
    | nil => cases hb
    | cons => cases hb
    | tup => cases hb
  | emp => exact one (by simp only [VR, List.cons.injEq, and_true] at h; subst h; rfl) h
  | clo f c => exact one (by obtain ⟨caps, e, _⟩ := h; simp only [List.cons.injEq, and_true] at e; subst e; rfl) h
  | sv c =>
    obtain ⟨cs, e, h0, h1⟩ := h
    simp only [List.cons.injEq, and_true] at e
    subst e
    exact ⟨h1, h0⟩
  | _ => cases hb

theorem newBox {K : List Nat} {d ob : Nat} {T : TypeId} {c : AV} (hd : o.dst = some d) (hg : o.guard = none) (hob : Nat.blt 9999 ob = true) (hn : Nat.blt d n = true) (h4 : Nat.blt d 10000 = true)
    (h : ∀ (X : Cx) (t : St) (a : Act) (w : World) (β : Nat → Option Nat) (ν : Nat → Value), (∀ k ∈ K, t k = s k) → RelB P X t a w β ν →
      ∃ cs : Array Value, (execOp a.eval o).run P w = .ok (.value (.pointer (some ⟨w.heap.size, 0, none⟩))) (w.alloc (.cells cs T)) ∧ (∀ v ∈ cs.toList, v.oneCell' = true) ∧ VR P (okAt X t β w) w t β ν c cs.toList) :
    LStep P n ops o (ob :: K, [d, ob]) s (upd (upd s ob (.box (newVer (s ob)) c)) d (.ref ob (newVer (s ob)) 0)) := by
  refine ⟨off_two, fun X t a w hX hk hr Q => ?_⟩
  obtain ⟨β, ν, hr⟩ := hr
  obtain ⟨cs, h1, h2, h3⟩ := h X t a w β ν (fun k hk' => hk k (by simp [hk'])) hr
  refine opWp_run (by simp [Region.wanted, hg]) h1 ?_
  have hob' := blt_lt hob
  have hd4 := blt_lt h4
  rw [ovr_two (by omega), hd]
  have hto : t ob = s ob := hk ob (by simp)
  refine ⟨updF β ob (some w.heap.size), updF ν ob undef, hr.newObj (Kill.refl t) (by omega) (by rw [hX]; exact blt_lt hn) hd4 rfl rfl ⟨rfl, Nat.le_refl _⟩ (by simp) (fun b hb => .inl (Below.heap_alloc _ _ _ hb)) (fun b hb => .inl ?_) (by rw [hto]; rfl) rfl ?_⟩
  · cases hb; simp
  · intro hok hgo
    refine ⟨⟨w.heap.size, cs, T, updF_same .., heap_new w _, h2, VR_mono hok (by simp) hgo _ h3⟩, ?_⟩
    refine ⟨_, newVer (s ob), rfl, ?_, Nat.le_refl _, fun _ _ => ⟨w.heap.size, updF_same .., rfl⟩⟩
    rw [upd_ne _ _ (by omega), upd_same]
    rfl

theorem r_box {x : Operand} {d ob : Nat} {T : TypeId} {y : AV} (ho : o.op = .box T x) (hx : Sees (ev s x) y) (hy : boxOk y = true) (hd : o.dst = some d) (hg : o.guard = none) (hob : Nat.blt 9999 ob = true) (hn : Nat.blt d n = true) (h4 : Nat.blt d 10000 = true) :
    LStep P n ops o (ob :: kx x, [d, ob]) s (upd (upd s ob (.box (newVer (s ob)) (boxOf y))) d (.ref ob (newVer (s ob)) 0)) := by
  refine newBox (T := T) hd hg hob hn h4 (fun X t a w β ν hk hr => ?_)
  obtain ⟨h1, h2⟩ := boxed hy (hr.sees hk hx)
  exact ⟨(a.eval x).cells, by simp [execOp, ho, Instr.box, newVar, newRow, newObj, Sem.run], h2, h1⟩
def zAV : Value → AV
  | .int k n => .val (.int k n)
  | .bool b => .val (.bool b)
  | .string b => .val (.str b)
  | .slice none 0 0 => .emp
  | _ => .any
def zChain : List Value → AV
  | [] => .cnil
  | v :: vs => .ccons (zAV v) (zChain vs)
def Zero (P : Program) (T : TypeId) (z : Value) : Prop := (P.info? T).bind (·.zero) = some z

theorem zAV_ok {ok : Nat → Prop} {w : World} {t : St} {β : Nat → Option Nat} {ν : Nat → Value} (v : Value) : VR P ok w t β ν (zAV v) [v] := by
  unfold zAV
  split <;> simp_all [VR, RV, R, vAgg, D.isAgg, Value.cells]
theorem zChain_ok {ok : Nat → Prop} {w : World} {t : St} {β : Nat → Option Nat} {ν : Nat → Value} : ∀ (vs : List Value), VR P ok w t β ν (zChain vs) vs
  | [] => rfl
  | v :: vs => ⟨v, vs, rfl, zAV_ok v, zChain_ok vs⟩

theorem run_zero {T : TypeId} {z : Value} (h : Zero P T z) (w : World) : (zeroValue T).run P w = .ok z w := by
  unfold Zero at h
  obtain ⟨i, hi, hz⟩ := Option.bind_eq_some_iff.1 h
  simp [zeroValue, typeInfo, hi, hz]

theorem r_alloc {d ob : Nat} {T : TypeId} {z : Value} (ho : o.op = .alloc T) (hz : Zero P T z) (h1 : z.cells.toList.all (·.oneCell') = true) (hd : o.dst = some d) (hg : o.guard = none) (hob : Nat.blt 9999 ob = true) (hn : Nat.blt d n = true) (h4 : Nat.blt d 10000 = true) :
    LStep P n ops o (ob :: [], [d, ob]) s (upd (upd s ob (.box (newVer (s ob)) (zChain z.cells.toList))) d (.ref ob (newVer (s ob)) 0)) := by
  refine newBox (T := T) hd hg hob hn h4 (fun X t a w β ν hk hr => ?_)
  exact ⟨z.cells, by simp [execOp, ho, Instr.alloc, newVar, newRow, newObj, Sem.run, run_zero hz], fun v hv => (List.all_eq_true.1 h1) v hv, zChain_ok _⟩

theorem RelB.atBox {X : Cx} {t : St} {a : Act} {w : World} {β : Nat → Option Nat} {ν : Nat → Value} (hr : RelB P X t a w β ν) {x : Operand} {ob u off : Nat} {c : AV} (hk : ∀ k ∈ ob :: kx x, t k = s k) (hx : Sees (ev s x) (.ref ob u off)) (hb : s ob = .box u c) :
    ∃ b cs ty, a.eval x = .pointer (some ⟨b, off, none⟩) ∧ β ob = some b ∧ w.heap[b]? = some (.cells cs ty (0, 0)) ∧ (∀ v ∈ cs.toList, v.oneCell' = true) ∧ VR P (okAt X t β w) w t β ν c cs.toList := by
  obtain ⟨v, k, e, h1, h2, h3⟩ := hr.sees (fun k hk' => hk k (by simp [hk'])) hx
  simp only [List.cons.injEq, and_true] at e
  have hob : t ob = .box u c := by rw [hk ob (by simp), hb]
  rw [hob] at h1
  simp only [ver, Option.some.injEq] at h1
  obtain ⟨b, h4, h5⟩ := h3 h1 (by rw [hob]; rfl)
  have ho := hr.obj ob
  rw [hob] at ho
  obtain ⟨b', cs, ty, g1, g2, g3, g4⟩ := ho
  rw [h4] at g1
  cases g1
  exact ⟨b, cs, ty, by rw [e, h5], h4, g2, g3, g4⟩
theorem p_loadB {x : Operand} {T ob u off : Nat} {c y : AV} (ho : o.op = .load T x) (hT : IsAgg P T false) (hx : Sees (ev s x) (.ref ob u off)) (hb : s ob = .box u c) (hi : Nat.blt off c.len = true) (hy : c.nth off = y) (hv : ver y = none) :
    PStep P o (ob :: kx x) s y := by
  intro X t a w β ν hk hr
  obtain ⟨b, cs, ty, h1, h2, h3, h4, h5⟩ := hr.atBox hk hx hb
  obtain ⟨v, g1, g2⟩ := VR_nth c off h5 (blt_lt hi)
  rw [hy] at g2
  refine ⟨hv, v, ?_, g2⟩
  have hc : w.cell? ⟨b, off, none⟩ = some v := by simp only [World.cell?, h3]; simpa using g1
  simp [execOp, ho, Instr.loadAt, h1, Instr.sureAddr, loadVar, run_isAgg hT, hc]
theorem p_loadBS {x : Operand} {T k ob u : Nat} {c : AV} (ho : o.op = .load T x) (hT : IsAgg P T true) (hs : Size P T k) (hx : Sees (ev s x) (.ref ob u 0)) (hb : s ob = .box u c) (hc : c.isD = true) (hk' : c.len = k) :
    PStep P o (ob :: kx x) s (.val (.agg c.toD)) := by
  intro X t a w β ν hk hr
  obtain ⟨b, cs, ty, h1, h2, h3, h4, h5⟩ := hr.atBox hk hx hb
  obtain ⟨g1, g2, g3⟩ := VR_toD c hc h5
  refine ⟨rfl, .agg cs, ?_, ⟨_, rfl, rfl, by simpa [R, Value.cells] using g1⟩⟩
  have hlc := run_loadCells_list (P := P) w ⟨b, 0, none⟩ cs.toList (fun j v hj => by
    rw [Addr.add_none rfl]
    simp only [World.cell?, h3]
    simpa using hj)
  rw [show cs.toList.length = k by omega] at hlc
  simp [execOp, ho, Instr.loadAt, h1, Instr.sureAddr, loadVar, run_isAgg hT, run_sizeOf hs, hlc]

theorem p_fieldRef {x : Operand} {T i off ft k ob u : Nat} {c : AV} (ho : o.op = .fieldAddr T x i) (hF : IsField P T i off ft) (hs : Size P ft k) (hk0 : Nat.blt 0 k = true) (hx : Sees (ev s x) (.ref ob u 0)) (hb : s ob = .box u c) :
    PStep P o (ob :: kx x) s (.ref ob u off) := by
  intro X t a w β ν hk hr
  obtain ⟨b, cs, ty, h1, h2, h3, h4, h5⟩ := hr.atBox hk hx hb
  have hob : t ob = .box u c := by rw [hk ob (by simp), hb]
  refine ⟨rfl, .pointer (some ⟨b, off, none⟩), ?_, ⟨_, u, rfl, by rw [hob]; rfl, Nat.le_refl _, fun _ _ => ⟨b, h2, rfl⟩⟩⟩
  unfold IsField at hF
  obtain ⟨dsc, q1, q2⟩ := Option.bind_eq_some_iff.1 hF
  cases dsc <;> simp at q2
  rename_i fs
  obtain ⟨fld, q3, q4, q5⟩ := q2
  subst q4 q5
  have hne : k ≠ 0 := by have := blt_lt hk0; omega
  simp [execOp, ho, Instr.fieldAt, h1, Instr.sureAddr, run_underlying' q1, q3, fieldPlace, run_sizeOf hs, hne, Addr.add_none]
theorem RelB.setBox {X : Cx} {t : St} {a : Act} {w : World} {β : Nat → Option Nat} {ν : Nat → Value} (hr : RelB P X t a w β ν) {ob u b : Nat} {c c' : AV} {cs cs' : Array Value} {ty : TypeId} (h4 : 10000 ≤ ob) (hb : t ob = .box u c)
    (hβ : β ob = some b) (hh : w.heap[b]? = some (.cells cs ty (0, 0))) (h1 : ∀ v ∈ cs'.toList, v.oneCell' = true) (hv : VR P (okAt X t β w) w t β ν c' cs'.toList) :
    RelB P X (upd t ob (.box u c')) a (w.setRow b cs') β ν := by
  have hlv : ∀ o, live (upd t ob (.box u c') o) = live (t o) ∧ ver (upd t ob (.box u c') o) = ver (t o) := by
    intro o
    by_cases e : o = ob
    · subst e; rw [upd_same, hb]; exact ⟨rfl, rfl⟩
    · rw [upd_ne _ _ e]; exact ⟨rfl, rfl⟩
  have hlob : live (t ob) = true := by rw [hb]; rfl
  have hgoes : Goes t (upd t ob (.box u c')) β β ν ν := fun o k hk => ⟨k, by rw [(hlv o).2]; exact hk, Nat.le_refl _, fun _ hl => ⟨by rw [← (hlv o).1]; exact hl, rfl, rfl⟩⟩
  have hok : ∀ b', okAt X t β w b' → okAt X (upd t ob (.box u c')) β (w.setRow b cs') b' ∧ (w.setRow b cs').heap[b']? = w.heap[b']? := by
    intro b' hb'
    refine ⟨⟨hb'.1, by simpa using hb'.2.1, fun o hl => hb'.2.2 o (by rw [← (hlv o).1]; exact hl)⟩, ?_⟩
    exact setRow_other w b b' cs' (fun e => hb'.2.2 ob hlob (by rw [hβ, e]))
  refine hr.move rfl rfl ⟨rfl, Nat.le_refl _⟩ (by simp) ?_ hok hgoes ?_ ?_ ?_ ?_ ?_ rfl rfl (fun hv => .inl (upd_ne _ _ (by intro e; rw [e, upd_same] at hv; cases hv)))
  · intro b' hb' hn
    refine setRow_other w b b' cs' (fun e => ?_)
    subst e
    rcases (hr.own ob b' hlob hβ).1 with h | h
    · omega
    · exact hn h
  · intro o b' hl hb'; exact .inl ⟨by rw [← (hlv o).1]; exact hl, hb'⟩
  · intro o o' b' hl hl' hb1 hb2
    exact hr.inj o o' b' (by rw [← (hlv o).1]; exact hl) (by rw [← (hlv o').1]; exact hl') hb1 hb2
  · intro o hl
    by_cases e : o = ob
    · subst e
      right
      rw [upd_same]
      exact ⟨b, cs', ty, hβ, setRow_heap w b cs cs' ty _ hh, h1, VR_mono hok (by simp) hgoes _ hv⟩
    · left
      refine ⟨upd_ne _ _ e, rfl, rfl, fun b' hb' => setRow_other w b b' cs' (fun e' => e ?_)⟩
      subst e'
      exact hr.inj o ob b' (by rw [← (hlv o).1]; exact hl) hlob hb' hβ
  · intro k hk
    left
    exact ⟨upd_ne _ _ (by omega), rfl⟩
  · intro k hk
    rw [(hlv k).2]
    exact hr.keys k hk

theorem opWp_skip {Q : Exit → Act → World → Prop} {K : Act → World → Prop} {a : Act} {w w' : World} (hw : Region.wanted o (yielded ops a.tmps) = true) (hd : o.dst = none)
    (hr : (execOp a.eval o).run P w = .ok .skip w') (h : K a w') : opWp P ops Q o K a w := by
  unfold opWp
  rw [if_pos hw]
  left
  unfold Oper.wp
  rw [hr]
  simp only [Oper.upon, hd]
  exact h
theorem r_store {x y : Operand} {T ob u off : Nat} {c v : AV} (ho : o.op = .store T x y) (hs : Size P T 1) (hd : o.dst = none) (hg : o.guard = none) (hob : Nat.blt 9999 ob = true) (hx : Sees (ev s x) (.ref ob u off)) (hb : s ob = .box u c) (hi : Nat.blt off c.len = true) (hy : Sees (ev s y) v)
    (h1 : ∀ {P : Program} {ok : Nat → Prop} {w : World} {s : St} {β : Nat → Option Nat} {ν : Nat → Value} {q : Value}, VR P ok w s β ν v [q] → q.oneCell' = true) :
    LStep P n ops o ((ob :: kx x) ++ kx y, [ob]) s (upd s ob (.box u (c.set off v))) := by
  refine ⟨upd_off, fun X t a w hX hk hr Q => ?_⟩
  obtain ⟨β, ν, hr⟩ := hr
  obtain ⟨b, cs, ty, g1, g2, g3, g4, g5⟩ := hr.atBox (kl hk) hx hb
  have hv := hr.sees (kr hk) hy
  have hv1 := h1 hv
  have hlt : off < cs.size := by
    obtain ⟨q, hq, _⟩ := VR_nth c off g5 (blt_lt hi)
    have := (List.getElem?_eq_some_iff.1 hq).1
    simpa using this
  have hcl : (a.eval y).cells.toList = [a.eval y] := by
    generalize a.eval y = q at hv1
    cases q <;> simp_all [Value.cells, Value.oneCell']
  have hcz : (a.eval y).cells.size = 1 := by rw [← Array.length_toList, hcl]; rfl
  have hrun : (execOp a.eval o).run P w = .ok .skip (w.setRow b (cs.toList.set off (a.eval y)).toArray) := by
    have hst := run_storeCells_at (P := P) b off ty [a.eval y] 0 cs w g3 (by simp; omega) (by simpa using hv1)
    have e : (cs.toList.take (off + 0) ++ [a.eval y] ++ cs.toList.drop (off + 0 + [a.eval y].length)) = cs.toList.set off (a.eval y) := by
      simp only [Nat.add_zero, List.length_singleton, List.append_assoc, List.singleton_append]
      rw [List.set_eq_take_append_cons_drop]
      simp [hlt]
    rw [e] at hst
    simp [execOp, ho, Instr.storeAt, g1, Instr.sureAddr, storeVar, run_sizeOf hs, hcz, hcl, hst]
  refine opWp_skip (by simp [Region.wanted, hg]) hd hrun ?_
  rw [ovr_one]
  have hob' := blt_lt hob
  refine ⟨β, ν, hr.setBox (by omega) (by rw [hk ob (by simp), hb]) g2 g3 ?_ ?_⟩
  · intro q hq
    rcases List.mem_or_eq_of_mem_set hq with h | h
    · exact g4 q h
    · rw [h]; exact hv1
  · exact VR_set c off v _ g5 (blt_lt hi) hv

theorem one_val {d : D} (hd : d.one = true) : ∀ {P : Program} {ok : Nat → Prop} {w : World} {s : St} {β : Nat → Option Nat} {ν : Nat → Value} {q : Value}, VR P ok w s β ν (.val d) [q] → q.oneCell' = true := fun h => oneCell_of_VR hd h
theorem one_emp : ∀ {P : Program} {ok : Nat → Prop} {w : World} {s : St} {β : Nat → Option Nat} {ν : Nat → Value} {q : Value}, VR P ok w s β ν .emp [q] → q.oneCell' = true := fun h => by
  simp only [VR, List.cons.injEq, and_true] at h; subst h; rfl
theorem r_storeS {x y : Operand} {T k ob u : Nat} {c : AV} {e : D} (ho : o.op = .store T x y) (hs : Size P T k) (hd : o.dst = none) (hg : o.guard = none) (hob : Nat.blt 9999 ob = true) (hx : Sees (ev s x) (.ref ob u 0)) (hb : s ob = .box u c) (hy : Sees (ev s y) (.val (.agg e)))
    (he : e.flat1 = true) (hl : e.len = k) (hl' : c.len = k) (hch : c.chain = true) :
    LStep P n ops o ((ob :: kx x) ++ kx y, [ob]) s (upd s ob (.box u e.toAV)) := by
  refine ⟨upd_off, fun X t a w hX hk hr Q => ?_⟩
  obtain ⟨β, ν, hr⟩ := hr
  obtain ⟨b, cs, ty, g1, g2, g3, g4, g5⟩ := hr.atBox (kl hk) hx hb
  obtain ⟨q, e1, hq1, hq2⟩ := hr.sees (kr hk) hy
  simp only [List.cons.injEq, and_true] at e1
  subst e1
  obtain ⟨r1, r2, r3⟩ := R_toAV (s := t) (β := β) (ν := ν) e he hq2
  have hlen : cs.size = k := by
    have : ∀ (c : AV) (cs : List Value), c.chain = true → VR P (okAt X t β w) w t β ν c cs → cs.length = c.len := by
      intro c
      induction c with
      | cnil => intro cs _ h; simp only [VR] at h; subst h; rfl
      | ccons a b iha ihb => intro cs h1 h; obtain ⟨v, vs, rfl, _, h2⟩ := h; simp [AV.len, ihb vs h1 h2]
      | _ => intro cs h1 _; cases h1
    have := this c cs.toList hch g5
    simp at this
    omega
  have hsz : (a.eval y).cells.size = k := by rw [← Array.length_toList, r3, hl]
  have hrun : (execOp a.eval o).run P w = .ok .skip (w.setRow b (a.eval y).cells) := by
    have hst := run_storeCells_at (P := P) b 0 ty (a.eval y).cells.toList 0 cs w g3 (by simp; omega) r2
    have e : (cs.toList.take (0 + 0) ++ (a.eval y).cells.toList ++ cs.toList.drop (0 + 0 + (a.eval y).cells.toList.length)).toArray = (a.eval y).cells := by
      rw [List.drop_of_length_le (by simp; omega)]
      simp
    rw [e] at hst
    simp [execOp, ho, Instr.storeAt, g1, Instr.sureAddr, storeVar, run_sizeOf hs, hsz, hst]
  refine opWp_skip (by simp [Region.wanted, hg]) hd hrun ?_
  rw [ovr_one]
  have hob' := blt_lt hob
  exact ⟨β, ν, hr.setBox (by omega) (by rw [hk ob (by simp), hb]) g2 g3 r2 r1⟩

def D.setNth : D → Nat → D → D
  | .cons _ b, 0, x => .cons x b
  | .cons a b, i + 1, x => .cons a (b.setNth i x)
  | c, _, _ => c

theorem R_setNth {ok : Nat → Prop} {w : World} : ∀ (c : D) {cs : List Value} (i : Nat) (x : D) (v : Value), R P c ok w cs → i < c.len → RV P x ok w v → R P (c.setNth i x) ok w (cs.set i v)
  | .cons a b, cs, i, x, v, h, hi, hx => by
    obtain ⟨u, vs, rfl, h1, h2, h3⟩ := h
    cases i with
    | zero => exact ⟨v, vs, rfl, hx.1, hx.2, h3⟩
    | succ i => exact ⟨u, vs.set i v, rfl, h1, h2, R_setNth b i x v h3 (by simpa [D.len] using hi) hx⟩
  | .int .., _, _, _, _, _, hi, _ => by simp [D.len] at hi
  | .bool .., _, _, _, _, _, hi, _ => by simp [D.len] at hi
  | .str .., _, _, _, _, _, hi, _ => by simp [D.len] at hi
  | .nil, _, _, _, _, _, hi, _ => by simp [D.len] at hi
  | .agg .., _, _, _, _, _, hi, _ => by simp [D.len] at hi
  | .tup .., _, _, _, _, _, hi, _ => by simp [D.len] at hi
  | .list .., _, _, _, _, _, hi, _ => by simp [D.len] at hi
  | .fn .., _, _, _, _, _, hi, _ => by simp [D.len] at hi
  | .sl .., _, _, _, _, _, hi, _ => by simp [D.len] at hi
  | .any, _, _, _, _, _, hi, _ => by simp [D.len] at hi
  | .ptr .., _, _, _, _, _, hi, _ => by simp [D.len] at hi
  | .clp .., _, _, _, _, _, hi, _ => by simp [D.len] at hi
  | .ifc .., _, _, _, _, _, hi, _ => by simp [D.len] at hi

theorem setNth_len : ∀ (c : D) (i : Nat) (x : D), (c.setNth i x).len = c.len
  | .cons a b, 0, x => rfl
  | .cons a b, i + 1, x => by simp [D.setNth, D.len, setNth_len b i x]
  | .int .., _, _ => rfl
  | .bool .., _, _ => rfl
  | .str .., _, _ => rfl
  | .nil, _, _ => rfl
  | .agg .., _, _ => rfl
  | .tup .., _, _ => rfl
  | .list .., _, _ => rfl
  | .fn .., _, _ => rfl
  | .sl .., _, _ => rfl
  | .any, _, _ => rfl
  | .ptr .., _, _ => rfl
  | .clp .., _, _ => rfl
  | .ifc .., _, _ => rfl
def Places (P : Program) (T : TypeId) (ps : List (Nat × Nat)) : Prop :=
  (P.underlying T).bind (fun d => match d with | .struct fs => fs.toList.mapM (fun f => (P.info? f.type).map fun i => (f.offset, i.size)) | _ => none) = some ps
def Parts (s : St) (ps : List (Nat × Nat)) : List (Nat × Operand) → List (Nat × D) → Prop
  | [], ds => ds = []
  | (i, x) :: l, ds => ∃ off d ds', ds = (off, d) :: ds' ∧ ps[i]? = some (off, 1) ∧ d.one = true ∧ Sees (ev s x) (.val d) ∧ Parts s ps l ds'

def setAll (c : D) : List (Nat × D) → D
  | [] => c
  | (i, d) :: l => setAll (c.setNth i d) l

def kxs : List (Nat × Operand) → List Nat
  | [] => []
  | (_, x) :: l => kx x ++ kxs l

theorem fill_parts {X : Cx} {t : St} {a : Act} {w : World} {β : Nat → Option Nat} {ν : Nat → Value} (hr : RelB P X t a w β ν) {ps : List (Nat × Nat)} : ∀ (l : List (Nat × Operand)) (ds : List (Nat × D)) (c : D) (cells : Array Value),
    (∀ k ∈ kxs l, t k = s k) → Parts s ps l ds → (∀ p ∈ ds, p.1 < c.len) → c.len ≤ cells.size → R P c (okAt X t β w) w cells.toList →
    ∃ cells' : Array Value, Instr.fill (ps.toArray[·]?) cells (l.map fun p => (p.1, a.eval p.2)) = some cells' ∧ R P (setAll c ds) (okAt X t β w) w cells'.toList
  | [], ds, c, cells, _, hp, _, _, hR => by simp only [Parts] at hp; subst hp; exact ⟨cells, rfl, hR⟩
  | (i, x) :: l, ds, c, cells, hk, hp, hlt, hlen, hR => by
    obtain ⟨off, d, ds', rfl, h1, h2, h3, h4⟩ := hp
    obtain ⟨v, e, hv⟩ := hr.sees (fun k hk' => hk k (by simp [kxs, hk'])) h3
    simp only [List.cons.injEq, and_true] at e
    subst e
    have hone := (RV_one h2 hv).2
    have hcl : (a.eval x).cells = #[a.eval x] := by
      generalize a.eval x = q at hone
      cases q <;> simp_all [Value.cells, Value.oneCell']
    have ho : off < c.len := hlt (off, d) (by simp)
    obtain ⟨cells', g1, g2⟩ := fill_parts hr l ds' (c.setNth off d) (cells.setIfInBounds off (a.eval x)) (fun k hk' => hk k (by simp [kxs, hk'])) h4
      (fun p hp' => by rw [setNth_len]; exact hlt p (by simp [hp'])) (by rw [setNth_len]; simpa using hlen) (by simpa using R_setNth c off d _ hR ho hv)
    refine ⟨cells', ?_, g2⟩
    have hps : ps.toArray[i]? = some (off, 1) := by simpa using h1
    simp only [List.map_cons, Instr.fill, hps, hcl]
    have : ¬ cells.size < off + 1 := by omega
    simpa [this] using g1

theorem p_build {T : TypeId} {l : List (Nat × Operand)} {z : Value} {ps : List (Nat × Nat)} {zc : D} {ds : List (Nat × D)} (ho : o.op = .build T l.toArray) (hp : Places P T ps) (hz : Zero P T z) (hzl : zc.len ≤ z.cells.size)
    (hzc : ∀ (ok : Nat → Prop) (w : World), R P zc ok w z.cells.toList) (hl : Parts s ps l ds) (hlt : ds.all (fun p => Nat.blt p.1 zc.len) = true) : PStep P o (kxs l) s (.val (.agg (setAll zc ds))) := by
  intro X t a w β ν hk hr
  obtain ⟨cells', g1, g2⟩ := fill_parts hr l ds zc z.cells hk hl (fun p hp' => blt_lt (List.all_eq_true.1 hlt p hp')) hzl (hzc _ _)
  refine ⟨rfl, .agg cells', ?_, ⟨_, rfl, rfl, by simpa [R, Value.cells] using g2⟩⟩
  have hb : P.built T (l.toArray.map fun p => (p.1, a.eval p.2)).toList = some cells' := by
    unfold Places at hp
    unfold Zero at hz
    obtain ⟨d, q1, q2⟩ := Option.bind_eq_some_iff.1 hp
    obtain ⟨i, q3, q4⟩ := Option.bind_eq_some_iff.1 hz
    cases d <;> simp at q2
    unfold Program.built
    simp only [q1, q3, q4, q2]
    simpa using g1
  have := run_build (P := P) w T (l.toArray.map fun p => (p.1, a.eval p.2)) cells' hb
  simp [execOp, ho]
  simp at this
  rw [this]
  rfl
end
end Go.Um

/- Calls by contract; results. No condition. -/

namespace Go.Um
open Go Go.RowKit

theorem VR_free {P : Program} {ok : Nat → Prop} {w : World} {s s' : St} {β β' : Nat → Option Nat} {ν ν' : Nat → Value} {x : AV} {vs : List Value} (hm : ment x = []) (h : VR P ok w s β ν x vs) : VR P ok w s' β' ν' x vs :=
  VR_mono' (fun _ hb => ⟨hb, rfl⟩) (Nat.le_refl _) x (fun o ho => by rw [hm] at ho; cases ho) h
def CStep (P : Program) (o : Oper) (K : List Nat) (s : St) (y : AV) : Prop :=
  ∀ (X : Cx) (t : St) (a : Act) (w : World) (β : Nat → Option Nat) (ν : Nat → Value), (∀ k ∈ K, t k = s k) → RelB P X t a w β ν → ver y = none ∧
    ∀ (Q : Exit → Act → World → Prop) (K' : Act → World → Prop), (∀ v w', RelB P X t a w' β ν → VR P (okAt X t β w') w' t β ν y [v] → K' (a.put o.dst v) w') → o.wp P a w K' Q

theorem PStep.c {P : Program} {o : Oper} {K : List Nat} {s : St} {y : AV} (h : PStep P o K s y) : CStep P o K s y := by
  intro X t a w β ν hk hr
  obtain ⟨h1, v, h2, h3⟩ := h X t a w β ν hk hr
  refine ⟨h1, fun Q K' hK => ?_⟩
  unfold Oper.wp
  rw [h2]
  exact hK v w hr h3

section
variable {P : Program} {n : Nat} {ops : Array Oper} {s : St} {o : Oper}

theorem CStep.step {d : Nat} {K : List Nat} {y : AV} (h : CStep P o K s y) (hd : o.dst = some d) (hg : o.guard = none) (hn : Nat.blt d n = true) (h4 : Nat.blt d 10000 = true) :
    LStep P n ops o (K, [d]) s (upd s d y) := by
  refine ⟨upd_off, fun X t a w hX hk hr Q => ?_⟩
  obtain ⟨β, ν, hr⟩ := hr
  obtain ⟨hy, h2⟩ := h X t a w β ν hk hr
  unfold opWp
  rw [if_pos (by simp [Region.wanted, hg])]
  left
  refine h2 Q _ (fun v w' hr' hv => ?_)
  rw [ovr_one, hd]
  exact ⟨β, ν, hr'.put (by rw [hX]; exact blt_lt hn) (blt_lt h4) hy hv⟩

theorem CStep.guard {d j g : Nat} {want b : Bool} {K : List Nat} {y : AV} (hg : o.guard = some (j, want)) (hj : (ops[j]?).bind (·.dst) = some g) (hb : s g = .val (.bool b))
    (h : (b == want) = true → CStep P o K s y) (hd : o.dst = some d) (hn : Nat.blt d n = true) (h4 : Nat.blt d 10000 = true) (hgn : Nat.blt g n = true) (hg4 : Nat.blt g 10000 = true) :
    LStep P n ops o (g :: K, [d]) s (upd s d (.gv (b == want) y)) := by
  refine ⟨upd_off, fun X t a w hX hk hr Q => ?_⟩
  obtain ⟨β, ν, hr⟩ := hr
  have hgs := hr.slot g (blt_lt hg4)
  rw [hk g (by simp), hb] at hgs
  have hgv := vr_bool hgs
  have hlt : g < a.tmps.size := by rw [hr.tmps, hX]; exact blt_lt hgn
  have hget : a.tmps[g]? = some (.bool b) := by
    rw [Array.getD_eq_getD_getElem?, Array.getElem?_eq_getElem hlt] at hgv
    rw [Array.getElem?_eq_getElem hlt]
    simpa using hgv
  have hyi := yielded_bool (a := a) hj hget
  rw [ovr_one]
  have hdn : d < X.n := by rw [hX]; exact blt_lt hn
  have hd4 : d < 10000 := blt_lt h4
  unfold opWp
  cases hbw : (b == want) with
  | true =>
    obtain ⟨_, h2⟩ := h hbw X t a w β ν (fun k hk' => hk k (by simp [hk'])) hr
    rw [if_pos (by simp only [Region.wanted, hg, hyi]; simpa using hbw)]
    left
    refine h2 Q _ (fun v w' hr' hv => ?_)
    rw [hd]
    exact ⟨β, ν, hr'.put hdn hd4 rfl ⟨v, rfl, fun _ => hv, fun h => by cases h⟩⟩
  | false =>
    rw [if_neg (by simp only [Region.wanted, hg, hyi]; simpa using hbw), hd]
    exact ⟨β, ν, hr.put hdn hd4 rfl ⟨_, rfl, fun h => by (cases h), fun _ => rfl⟩⟩
theorem CStep.guard2 {d j g : Nat} {want b g0 : Bool} {K : List Nat} {y : AV} (hg : o.guard = some (j, want)) (hj : (ops[j]?).bind (·.dst) = some g) (hb : s g = .gv g0 (.val (.bool b)))
    (h : g0 = true → (b == want) = true → CStep P o K s y) (hd : o.dst = some d) (hn : Nat.blt d n = true) (h4 : Nat.blt d 10000 = true) (hgn : Nat.blt g n = true) (hg4 : Nat.blt g 10000 = true) :
    LStep P n ops o (g :: K, [d]) s (upd s d (.gv (g0 && (b == want)) y)) := by
  refine ⟨upd_off, fun X t a w hX hk hr Q => ?_⟩
  obtain ⟨β, ν, hr⟩ := hr
  have hgs := hr.slot g (blt_lt hg4)
  rw [hk g (by simp), hb] at hgs
  have hlt : g < a.tmps.size := by rw [hr.tmps, hX]; exact blt_lt hgn
  rw [ovr_one]
  have hdn : d < X.n := by rw [hX]; exact blt_lt hn
  have hd4 : d < 10000 := blt_lt h4
  unfold opWp
  cases g0 with
  | false =>
    obtain ⟨v, e, _, hv⟩ := hgs
    simp only [List.cons.injEq, and_true] at e
    have hy0 : yielded ops a.tmps j = none := by
      have hv' := hv rfl
      rw [← e, Array.getD_eq_getD_getElem?, Array.getElem?_eq_getElem hlt] at hv'
      simp only [Option.getD_some] at hv'
      simp only [yielded, hj, Option.bind_some, Array.getElem?_eq_getElem hlt, hv']
      rfl
    rw [if_neg (by simp only [Region.wanted, hg, hy0]; simp), hd]
    exact ⟨β, ν, hr.put hdn hd4 rfl ⟨_, rfl, fun h => by (cases h), fun _ => rfl⟩⟩
  | true =>
    obtain ⟨v, e, hv, _⟩ := hgs
    simp only [List.cons.injEq, and_true] at e
    subst e
    have hgv := vr_bool (hv rfl)
    have hget : a.tmps[g]? = some (.bool b) := by
      rw [Array.getD_eq_getD_getElem?, Array.getElem?_eq_getElem hlt] at hgv
      rw [Array.getElem?_eq_getElem hlt]
      simpa using hgv
    have hyi := yielded_bool (a := a) hj hget
    cases hbw : (b == want) with
    | true =>
      obtain ⟨_, h2⟩ := h rfl hbw X t a w β ν (fun k hk' => hk k (by simp [hk'])) hr
      rw [if_pos (by simp only [Region.wanted, hg, hyi]; simpa using hbw)]
      left
      refine h2 Q _ (fun v w' hr' hv => ?_)
      rw [hd]
      exact ⟨β, ν, hr'.put hdn hd4 rfl ⟨v, rfl, fun _ => hv, fun h => by cases h⟩⟩
    | false =>
      rw [if_neg (by simp only [Region.wanted, hg, hyi]; simpa using hbw), hd]
      exact ⟨β, ν, hr.put hdn hd4 rfl ⟨_, rfl, fun h => by (cases h), fun _ => rfl⟩⟩

theorem run_callFunc {f : FuncId} (hf : IsFn P f) (args : Array Value) (w : World) : (callFunc f args).run P w = .ok (.enter f args) w := by
  unfold IsFn at hf
  obtain ⟨fn, h1, h2⟩ := Option.map_eq_some_iff.1 hf
  simp only [Prod.mk.injEq] at h2
  have h3 : ¬ fn.name = "runtime.NumGoroutine" := by simpa using h2.1
  have h4 : ¬ fn.body = none := by intro e; rw [e] at h2; simp at h2
  simp [callFunc, h1, h3, h4]

def PArgs (s : St) : List Operand → List AV → Prop
  | [], ys => ys = []
  | x :: xs, ys => ∃ y ys', ys = y :: ys' ∧ Sees (ev s x) y ∧ ment y = [] ∧ PArgs s xs ys'

def kxl : List Operand → List Nat
  | [] => []
  | x :: l => kx x ++ kxl l

theorem RelB.args {X : Cx} {t : St} {a : Act} {w : World} {β : Nat → Option Nat} {ν : Nat → Value} (hr : RelB P X t a w β ν) : ∀ (xs : List Operand) (ys : List AV), (∀ k ∈ kxl xs, t k = s k) → PArgs s xs ys → ArgsR P (okAt X t β w) w ys (xs.map a.eval)
  | [], ys, _, h => by simp only [PArgs] at h; subst h; rfl
  | x :: xs, ys, hk, h => by
    obtain ⟨y, ys', rfl, h1, h2, h3⟩ := h
    exact ⟨a.eval x, xs.map a.eval, rfl, VR_free h2 (hr.sees (fun k hk' => hk k (by simp [kxl, hk'])) h1), RelB.args hr xs ys' (fun k hk' => hk k (by simp [kxl, hk'])) h3⟩

theorem RelB.below {X : Cx} {t : St} {a : Act} {w w' : World} {β : Nat → Option Nat} {ν : Nat → Value} (hr : RelB P X t a w β ν) (hb : Belw w.heap.size w w') : RelB P X t a w' β ν := by
  have hkeep : ∀ b, b < w.heap.size → w'.heap[b]? = w.heap[b]? := hb.block
  refine hr.move hb.os hb.tape ⟨hb.output, hb.drawn⟩ hb.size (fun b h _ => hkeep b (Nat.lt_of_lt_of_le h hr.size)) (fun b h => ⟨⟨h.1, Nat.lt_of_lt_of_le h.2.1 hb.size, h.2.2⟩, hkeep b h.2.1⟩) (Goes.refl _ _ _) (fun o b hl h => .inl ⟨hl, h⟩) hr.inj
    (fun o hl => .inl ⟨rfl, rfl, rfl, fun b h => hkeep b (hr.own o b hl h).2⟩) (fun k _ => .inl ⟨rfl, rfl⟩) hr.keys rfl rfl (fun _ => .inl rfl)
theorem c_call {f : FuncId} {xs : List Operand} {T : Array TypeId} {ys : List AV} {r : D} (ho : o.op = .call { callee := .value (.func f), args := xs.toArray, argTypes := T }) (hf : IsFn P f) (hx : PArgs s xs ys) (hs : Spec P f ys r) :
    CStep P o (kxl xs) s (.val r) := by
  intro X t a w β ν hk hr
  refine ⟨rfl, fun Q K' hK => ?_⟩
  have hargs := hr.args xs ys hk hx
  have hc := hs w (okAt X t β w) _ (fun b hb => hb.2.1) hargs
  have hrun : (execOp a.eval o).run P w = .ok (.enter f (xs.map a.eval).toArray) w := by
    simp [execOp, ho, resolve, Act.eval, Deferred.ofValue, invoke, run_callFunc hf]
  unfold Oper.wp
  rw [hrun]
  refine hc.mono ?_
  rintro e w' ⟨v, rfl, hv, hbel⟩
  refine hK v w' (hr.below hbel) ⟨v, rfl, RV_mono (fun b hb => ⟨?_, rfl⟩) (Nat.le_refl _) hv⟩
  rcases hb with hb | hb
  · exact ⟨hb.1, Nat.lt_of_lt_of_le hb.2.1 hbel.size, hb.2.2⟩
  · exact ⟨.inr (.inl (Nat.le_trans hr.size hb.1)), hb.2, fun o hl h => by have := (hr.own o b hl h).2; omega⟩
end

section
variable {P : Program} {s : St}

def runRes (tmps : Array Value) : ResultVar → Sem Value
  | .tmp t => pure (tmps.getD t undef)
  | .cell a t => do loadVar t (← asAddr (tmps.getD a undef))

theorem results_eq (fn : Func) (tmps : Array Value) : results fn tmps = (do let vs ← fn.results.mapM (runRes tmps); pure (if h : vs.size = 1 then vs[0] else .tuple vs)) := by
  unfold results
  congr 1
def ResOne (P : Program) (s : St) (rv : ResultVar) (d : D) : Prop :=
  ∀ (X : Cx) (a : Act) (w : World) (β : Nat → Option Nat) (ν : Nat → Value), (∀ b, ¬ X.bor b) → RelB P X s a w β ν →
    ∃ v, (runRes a.tmps rv).run P w = .ok v w ∧ RV P d (fun b => (X.ok0 b ∨ X.w0.heap.size ≤ b) ∧ b < w.heap.size) w v

theorem ok_final {X : Cx} {t : St} {β : Nat → Option Nat} {w : World} (hbor : ∀ b, ¬ X.bor b) (b : Nat) (h : okAt X t β w b) : ((X.ok0 b ∨ X.w0.heap.size ≤ b) ∧ b < w.heap.size) ∧ w.heap[b]? = w.heap[b]? :=
  ⟨⟨h.1.elim .inl (fun h' => h'.elim .inr (fun h'' => absurd h'' (hbor b))), h.2.1⟩, rfl⟩

theorem res_tmp {t : Nat} {d : D} (ht : Nat.blt t 10000 = true) (h : Sees (s t) (.val d)) : ResOne P s (.tmp t) d := by
  intro X a w β ν hbor hr
  obtain ⟨v, e, hv⟩ := h _ _ _ _ _ _ _ (hr.slot t (blt_lt ht))
  simp only [List.cons.injEq, and_true] at e
  exact ⟨v, by simp only [runRes, e]; rfl, RV_mono (ok_final hbor) (Nat.le_refl _) hv⟩

theorem res_cell {t T k ob u : Nat} {c : AV} (ht : Nat.blt t 10000 = true) (h : s t = .ref ob u 0) (hb : s ob = .box u c) (hT : IsAgg P T true) (hs : Size P T k) (hc : c.isD = true) (hk : c.len = k) : ResOne P s (.cell t T) (.agg c.toD) := by
  intro X a w β ν hbor hr
  have hx : ev s (.tmp t) = .ref ob u 0 := by simp only [ev, ht, cond_true]; exact h
  obtain ⟨b, cs, ty, h1, h2, h3, h4, h5⟩ := hr.atBox (s := s) (x := .tmp t) (fun _ _ => rfl) (Sees.of hx) hb
  obtain ⟨g1, g2, g3⟩ := VR_toD c hc h5
  have hlc := run_loadCells_list (P := P) w ⟨b, 0, none⟩ cs.toList (fun j v hj => by
    rw [Addr.add_none rfl]
    simp only [World.cell?, h3]
    simpa using hj)
  rw [show cs.toList.length = k by omega] at hlc
  have h1' : a.tmps.getD t undef = .pointer (some ⟨b, 0, none⟩) := h1
  refine ⟨.agg cs, ?_, rfl, R_mono _ (ok_final hbor) (Nat.le_refl _) (by simpa [R, Value.cells] using g1)⟩
  simp only [runRes, h1']
  simp [asAddr, loadVar, run_isAgg hT, run_sizeOf hs, hlc]

theorem res1 {fn : Func} {rv : ResultVar} {d : D} (hf : fn.results = #[rv]) (h : ResOne P s rv d) : Res P fn s d := by
  intro X a w β ν hbor hr
  obtain ⟨v, h1, h2⟩ := h X a w β ν hbor hr
  refine ⟨v, ?_, h2⟩
  rw [results_eq, hf]
  simp [h1]

theorem res2 {fn : Func} {r1 r2 : ResultVar} {d1 d2 : D} (hf : fn.results = #[r1, r2]) (h1 : ResOne P s r1 d1) (h2 : ResOne P s r2 d2) : Res P fn s (.tup (.cons d1 (.cons d2 .nil))) := by
  intro X a w β ν hbor hr
  obtain ⟨v1, h3, h4⟩ := h1 X a w β ν hbor hr
  obtain ⟨v2, h5, h6⟩ := h2 X a w β ν hbor hr
  refine ⟨.tuple #[v1, v2], ?_, rfl, #[v1, v2], rfl, v1, [v2], rfl, h4.1, h4.2, v2, [], rfl, h6.1, h6.2, rfl⟩
  rw [results_eq, hf]
  simp [h3, h5]

end
end Go.Um
