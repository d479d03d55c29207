/- Steps of the abstract layer: how the relation between an abstract state and (frame, world) is kept. No condition. -/
import Derived.Test.YtpjenbbalengoaaCore
namespace Go.Um
open Go Go.RowKit

theorem live_ver {x : AV} (h : ver x = none) : live x = false := by cases x <;> simp_all [ver, live]
theorem ver_live {x : AV} (h : live x = true) : ∃ k, ver x = some k := by cases x <;> simp_all [ver, live]

theorem ownsRow_of_block {w w' : World} {base : Nat} {e : TypeId} {size : Nat} {v : Value} {n : Nat} {xs : List Value} (h : w.ownsRow base e size v n xs)
    (hb : ∀ b, v.ownBlock = some b → w'.heap[b]? = w.heap[b]?) : w'.ownsRow base e size v n xs := by
  obtain ⟨h1, h2⟩ := h
  refine ⟨h1, ?_⟩
  rcases h2 with h2 | ⟨g, cap, cur, rfl, hg, hh, r⟩
  · exact .inl h2
  · exact .inr ⟨g, cap, cur, rfl, hg, by rw [hb g rfl]; exact hh, r⟩

theorem OR_monoC {P : Program} {ok ok' : Nat → Prop} {w w' : World} {s s' : St} {β β' : Nat → Option Nat} {ν ν' : Nat → Value} {o : Nat}
    (hk : ∀ b, ok b → ok' b ∧ (cellsB w.heap[b]? = true → w'.heap[b]? = w.heap[b]?)) (hs : w.heap.size ≤ w'.heap.size) (hg : Goes s s' β β' ν ν') (hβ : β' o = β o) (hν : ν' o = ν o)
    (hb : ∀ b, β o = some b → w'.heap[b]? = w.heap[b]?) : ∀ (x : AV), OR P ok w s β ν o x → OR P ok' w' s' β' ν' o x := by
  intro x h
  cases x with
  | box u c =>
    obtain ⟨b, cs, ty, h1, h2, h3, h4⟩ := h
    exact ⟨b, cs, ty, by rw [hβ]; exact h1, by rw [hb b h1]; exact h2, h3, VR_monoC' hk hs _ (fun o _ => hg o) h4⟩
  | arr u e sz by_ f z xs =>
    obtain ⟨cells, h1, h2, h3, h4, h4', h5, h6⟩ := h
    refine ⟨cells, ?_, by rw [hβ, hν]; exact h2, h3, h4, h4', h5, fun i hi => R_monoC _ hk hs (h6 i hi)⟩
    rw [hν]
    exact ownsRow_of_block h1 (fun b e => hb b (by rw [h2]; exact e))
  | tl u e sz by_ f z xs =>
    obtain ⟨g, k, c, off, cells, h1, h2, h3, h4, h5, h6, h7, h8⟩ := h
    exact ⟨g, k, c, off, cells, ownsRow_of_block h1 (fun b e => hb b (by rw [h3, ← e]; rfl)), by rw [hν]; exact h2, by rw [hβ]; exact h3, h4, h5, h6, h7, fun i hi => R_monoC _ hk hs (h8 i hi)⟩
  | mp u kv vv m =>
    obtain ⟨b, es, cl, h1, h2, h3, h4⟩ := h
    exact ⟨b, es, cl, by rw [hν]; exact h1, by rw [hβ]; exact h2, by rw [hb b h2]; exact h3, h4⟩
  | _ => trivial

theorem OR_mono {P : Program} {ok ok' : Nat → Prop} {w w' : World} {s s' : St} {β β' : Nat → Option Nat} {ν ν' : Nat → Value} {o : Nat}
    (hk : ∀ b, ok b → ok' b ∧ w'.heap[b]? = w.heap[b]?) (hs : w.heap.size ≤ w'.heap.size) (hg : Goes s s' β β' ν ν') (hβ : β' o = β o) (hν : ν' o = ν o)
    (hb : ∀ b, β o = some b → w'.heap[b]? = w.heap[b]?) (x : AV) (h : OR P ok w s β ν o x) : OR P ok' w' s' β' ν' o x :=
  OR_monoC (fun b hb => ⟨(hk b hb).1, fun _ => (hk b hb).2⟩) hs hg hβ hν hb x h

theorem OR_dead {P : Program} {ok : Nat → Prop} {w : World} {s : St} {β : Nat → Option Nat} {ν : Nat → Value} {o : Nat} {x : AV} (h : live x = false) : OR P ok w s β ν o x := by
  cases x with
  | box u c => cases h
  | arr u e sz by_ f z xs => cases h
  | mp u kv vv m => cases h
  | tl u e s by_ f z xs => cases h
  | _ => trivial

/-- The general step: the world, the state and the frame go on together. -/
theorem RelB.move {P : Program} {X : Cx} {s s' : St} {a a' : Act} {w w' : World} {β β' : Nat → Option Nat} {ν ν' : Nat → Value} (h : RelB P X s a w β ν)
    (hos : w'.os = w.os) (htape : w'.tape = w.tape) (hout : w'.output = w.output ∧ w.drawn ≤ w'.drawn) (hsize : w.heap.size ≤ w'.heap.size)
    (hframe : ∀ b, b < X.w0.heap.size → ¬ X.bor b → w'.heap[b]? = w.heap[b]?)
    (hok : ∀ b, okAt X s β w b → okAt X s' β' w' b ∧ w'.heap[b]? = w.heap[b]?)
    (hgoes : Goes s s' β β' ν ν')
    (hown : ∀ o b, live (s' o) = true → β' o = some b → (live (s o) = true ∧ β o = some b) ∨ ((X.w0.heap.size ≤ b ∨ X.bor b) ∧ b < w'.heap.size))
    (hinj : ∀ o o' b, live (s' o) = true → live (s' o') = true → β' o = some b → β' o' = some b → o = o')
    (hobj : ∀ o, live (s' o) = true → (s' o = s o ∧ β' o = β o ∧ ν' o = ν o ∧ ∀ b, β o = some b → w'.heap[b]? = w.heap[b]?) ∨ OR P (okAt X s' β' w') w' s' β' ν' o (s' o))
    (hslot : ∀ t, t < 10000 → (s' t = s t ∧ a'.tmps.getD t undef = a.tmps.getD t undef) ∨ VR P (okAt X s' β' w') w' s' β' ν' (s' t) [a'.tmps.getD t undef])
    (hkeys : ∀ t, t < 10000 → ver (s' t) = none) (htmps : a'.tmps.size = a.tmps.size) (hdef : a'.defers = a.defers) (hanch : ver (s' 29999) = none → s' 29999 = s 29999 ∨ s' 29999 = .any) : RelB P X s' a' w' β' ν' where
  os := hos.trans h.os
  tape := htape.trans h.tape
  output := hout.1.trans h.output
  drawn := Nat.le_trans h.drawn hout.2
  size := Nat.le_trans h.size hsize
  frame := fun b hb hn => (hframe b hb hn).trans (h.frame b hb hn)
  own := fun o b hl hb => by
    rcases hown o b hl hb with ⟨h1, h2⟩ | h1
    · exact ⟨(h.own o b h1 h2).1, Nat.lt_of_lt_of_le (h.own o b h1 h2).2 hsize⟩
    · exact h1
  inj := hinj
  obj := fun o => by
    cases hl : live (s' o) with
    | false => exact OR_dead hl
    | true =>
      rcases hobj o hl with ⟨h1, h2, h3, h4⟩ | h1
      · rw [h1]
        exact OR_mono hok hsize hgoes h2 h3 h4 _ (h.obj o)
      · exact h1
  slot := fun t ht => by
    rcases hslot t ht with ⟨h1, h2⟩ | h1
    · rw [h1, h2]
      exact VR_mono hok hsize hgoes _ (h.slot t ht)
    · exact h1
  keys := hkeys
  tmps := htmps.trans h.tmps
  defers := hdef.trans h.defers
  kept := fun b o hb => ⟨(hok b (h.kept b o hb).1).1, (hok b (h.kept b o hb).1).2.trans (h.kept b o hb).2⟩
  anch := fun hv => by
    rcases hanch hv with h1 | h1
    · rw [h1]
      exact VR_mono hok hsize hgoes _ (h.anch (by rw [← h1]; exact hv))
    · rw [h1]
      exact ⟨_, rfl⟩

theorem put_get_same {a : Act} {d : Nat} (v : Value) (h : d < a.tmps.size) : (a.put (some d) v).tmps.getD d undef = v := by
  simp [Act.put, Array.getD_eq_getD_getElem?, h]
theorem put_get_ne (a : Act) {d t : Nat} (v : Value) (h : t ≠ d) : (a.put (some d) v).tmps.getD t undef = a.tmps.getD t undef := by
  simp only [Act.put, Array.getD_eq_getD_getElem?]
  rw [Array.getElem?_setIfInBounds, if_neg (fun e => h e.symm)]

theorem put_size (a : Act) (d : Option Nat) (v : Value) : (a.put d v).tmps.size = a.tmps.size := by cases d <;> simp [Act.put]
theorem put_defers (a : Act) (d : Option Nat) (v : Value) : (a.put d v).defers = a.defers := by cases d <;> simp [Act.put]

theorem upd_ver {s : St} {d : Nat} {x : AV} (hx : ver x = none) (hd : ver (s d) = none) (o : Nat) : ver (upd s d x o) = ver (s o) ∧ live (upd s d x o) = live (s o) := by
  by_cases e : o = d
  · subst e; rw [upd_same]; exact ⟨by rw [hx, hd], by rw [live_ver hx, live_ver hd]⟩
  · rw [upd_ne s x e]; exact ⟨rfl, rfl⟩

theorem Goes.upd {s : St} {d : Nat} {x : AV} (hx : ver x = none) (hd : ver (s d) = none) (β : Nat → Option Nat) (ν : Nat → Value) : Goes s (upd s d x) β β ν ν := by
  intro o k hk
  obtain ⟨h1, h2⟩ := upd_ver hx hd o
  exact ⟨k, by rw [h1]; exact hk, Nat.le_refl _, fun _ hl => ⟨by rw [← h2]; exact hl, rfl, rfl⟩⟩

theorem okAt_upd {X : Cx} {s : St} {d : Nat} {x : AV} (hx : ver x = none) (hd : ver (s d) = none) {β : Nat → Option Nat} {w : World} {b : Nat} : okAt X (upd s d x) β w b ↔ okAt X s β w b := by
  unfold okAt
  simp only [(upd_ver hx hd _).2]

/-- A slot is put anew; the world stays. -/
theorem RelB.put {P : Program} {X : Cx} {s : St} {a : Act} {w : World} {β : Nat → Option Nat} {ν : Nat → Value} (h : RelB P X s a w β ν) {d : Nat} {x : AV} {v : Value} (hn : d < X.n) (hd : d < 10000) (hx : ver x = none)
    (hv : VR P (okAt X s β w) w s β ν x [v]) : RelB P X (upd s d x) (a.put (some d) v) w β ν := by
  have hd' := h.keys d hd
  have hgo := Goes.upd (s := s) hx hd' β ν
  have hok : ∀ b, okAt X s β w b → okAt X (upd s d x) β w b ∧ w.heap[b]? = w.heap[b]? := fun b hb => ⟨(okAt_upd hx hd').2 hb, rfl⟩
  refine h.move rfl rfl ⟨rfl, Nat.le_refl _⟩ (Nat.le_refl _) (fun _ _ _ => rfl) hok hgo ?_ ?_ ?_ ?_ ?_ ?_ ?_ (fun _ => .inl (upd_ne s x (by omega)))
  · intro o b hl hb; rw [(upd_ver hx hd' o).2] at hl; exact .inl ⟨hl, hb⟩
  · intro o o' b hl hl' hb hb'
    rw [(upd_ver hx hd' o).2] at hl
    rw [(upd_ver hx hd' o').2] at hl'
    exact h.inj o o' b hl hl' hb hb'
  · intro o hl
    left
    have hne : o ≠ d := by rintro rfl; rw [upd_same, live_ver hx] at hl; cases hl
    exact ⟨upd_ne s x hne, rfl, rfl, fun _ _ => rfl⟩
  · intro t _
    by_cases e : t = d
    · subst e; right; rw [upd_same, put_get_same v (by rw [h.tmps]; exact hn)]; exact VR_mono hok (Nat.le_refl _) hgo _ hv
    · left; exact ⟨upd_ne s x e, put_get_ne a v e⟩
  · intro t ht; rw [(upd_ver hx hd' t).1]; exact h.keys t ht
  · rw [put_size]
  · rw [put_defers]

def evC : Value → AV
  | .int k n => .val (.int k n)
  | .bool b => .val (.bool b)
  | .string b => .val (.str b)
  | .slice none 0 0 => .emp
  | _ => .any

/-- Reading an operand. -/
def ev (s : St) : Operand → AV
  | .tmp t => bif Nat.blt t 10000 then s t else .any
  | .const v => evC v
  | .func f => .clo f .cnil
  | .global _ => .any

theorem RelB.eval {P : Program} {X : Cx} {s : St} {a : Act} {w : World} {β : Nat → Option Nat} {ν : Nat → Value} (h : RelB P X s a w β ν) (x : Operand) :
    VR P (okAt X s β w) w s β ν (ev s x) [a.eval x] := by
  cases x with
  | tmp t =>
    simp only [Act.eval, ev]
    cases hb : Nat.blt t 10000
    · exact ⟨_, rfl⟩
    · exact h.slot t (by simp [Nat.blt] at hb; omega)
  | const v =>
    simp only [Act.eval, ev]
    unfold evC
    split <;> simp_all [VR, RV, R, vAgg, D.isAgg, Value.cells]
  | func f => simp [Act.eval, ev, VR]
  | global g => simp [Act.eval, ev, VR]

end Go.Um
