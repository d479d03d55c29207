/- Contracts of functions that change objects of their caller. No condition. -/
import Derived.Test.YtpjenbbalengoaaFlow
namespace Go.Um
open Go Go.RowKit

/-- Contents of objects put anew. -/
def updL (s : St) : List (Nat × AV) → St
  | [] => s
  | (k, x) :: l => upd (updL s l) k x

def keysL (l : List (Nat × AV)) : List Nat := l.map (·.1)

theorem updL_off {s : St} {k : Nat} : ∀ {l : List (Nat × AV)}, k ∉ keysL l → updL s l k = s k
  | [], _ => rfl
  | (j, x) :: l, h => by
    simp only [keysL, List.map_cons, List.mem_cons, not_or] at h
    rw [updL, upd_ne _ _ h.1]
    exact updL_off h.2

theorem updL_on {s : St} {k : Nat} : ∀ {l : List (Nat × AV)}, k ∈ keysL l → updL s l k = ofL l k
  | [], h => by cases h
  | (j, x) :: l, h => by
    by_cases e : k = j
    · subst e; rw [updL, upd_same]; simp [ofL]
    · have hb : Nat.beq k j = false := by
        cases hb : Nat.beq k j
        · rfl
        · exact absurd (Nat.eq_of_beq_eq_true hb) e
      rw [updL, upd_ne _ _ e, ofL, hb]
      simp only [keysL, List.map_cons, List.mem_cons] at h
      exact updL_on (h.resolve_left e)

theorem ofL_off {k : Nat} : ∀ {l : List (Nat × AV)}, k ∉ keysL l → ofL l k = .any
  | [], _ => rfl
  | (j, x) :: l, h => by
    simp only [keysL, List.map_cons, List.mem_cons, not_or] at h
    have hb : Nat.beq k j = false := by
      cases hb : Nat.beq k j
      · rfl
      · exact absurd (Nat.eq_of_beq_eq_true hb) h.1
    rw [ofL, hb]
    exact ofL_off h.2

/-- The anchors of objects: what names each in the version that it has. -/
def anchor : List (Nat × AV) → AV
  | [] => .cnil
  | (k, .box u _) :: l => .ccons (.ref k u 0) (.ccons (.row k u) (anchor l))
  | (k, .arr u ..) :: l => .ccons (.row k u) (anchor l)
  | (k, .mp u ..) :: l => .ccons (.ref k u 0) (.ccons (.row k u) (anchor l))
  | _ :: l => anchor l

def ArgsV (P : Program) (ok : Nat → Prop) (w : World) (s : St) (β : Nat → Option Nat) (ν : Nat → Value) : List AV → List Value → Prop
  | [], vs => vs = []
  | x :: xs, vs => ∃ v vs', vs = v :: vs' ∧ VR P ok w s β ν x [v] ∧ ArgsV P ok w s β ν xs vs'

/-- Objects, with their anchors. -/
def withA (S0 S : List (Nat × AV)) : List (Nat × AV) := (29999, .clo 0 (anchor S0)) :: S

/-- THE CONTRACT OF A FUNCTION THAT CHANGES OBJECTS: of the arguments, with objects S0, it makes r, and leaves S1. -/
def SpecB (P : Program) (f : FuncId) (args : List AV) (S0 : List (Nat × AV)) (r : D) (S1 : List (Nat × AV)) : Prop :=
  ∀ (X : Cx) (a : Act) (β : Nat → Option Nat) (ν : Nat → Value) (vs : List Value), RelB P X (ofL (withA S0 S0)) a X.w0 β ν → ArgsV P (okAt X (ofL (withA S0 S0)) β X.w0) X.w0 (ofL (withA S0 S0)) β ν args vs →
    Calls P f vs.toArray X.w0 (fun e w' => ∃ v β' ν', e = .returned v ∧ RelB P X (ofL (withA S0 S1)) a w' β' ν' ∧ RV P r (okAt X (ofL (withA S0 S1)) β' w') w' v)

/-! ### A function's walk -/

def initB (args : List AV) (S : List (Nat × AV)) : St := fun t => bif Nat.blt t 10000 then initS args t else ofL S t

theorem ArgsV_len {P : Program} {ok : Nat → Prop} {w : World} {s : St} {β : Nat → Option Nat} {ν : Nat → Value} : ∀ {args : List AV} {vs : List Value}, ArgsV P ok w s β ν args vs → vs.length = args.length
  | [], _, h => by simp only [ArgsV] at h; subst h; rfl
  | x :: xs, _, h => by obtain ⟨v, vs', rfl, _, h2⟩ := h; simp [ArgsV_len h2]

theorem ArgsV_get {P : Program} {ok : Nat → Prop} {w : World} {s : St} {β : Nat → Option Nat} {ν : Nat → Value} : ∀ {args : List AV} {vs : List Value}, ArgsV P ok w s β ν args vs → ∀ t, VR P ok w s β ν (initS args t) [vs.getD t undef]
  | [], _, h, t => ⟨_, rfl⟩
  | x :: xs, vs, h, 0 => by obtain ⟨v, vs', rfl, h1, h2⟩ := h; exact h1
  | x :: xs, vs, h, t + 1 => by obtain ⟨v, vs', rfl, h1, h2⟩ := h; exact ArgsV_get h2 t

theorem VR_ver {P : Program} {ok : Nat → Prop} {w : World} {s : St} {β : Nat → Option Nat} {ν : Nat → Value} {x : AV} {vs : List Value} (h : VR P ok w s β ν x vs) : ver x = none := by
  cases x <;> first | rfl | exact h.elim

/-- What the results read as, beside objects that are the caller's. -/
def ResB (P : Program) (fn : Func) (s : St) (r : D) : Prop :=
  ∀ (X : Cx) (a : Act) (w : World) (β : Nat → Option Nat) (ν : Nat → Value), RelB P X s a w β ν → ∃ v, (results fn a.tmps).run P w = .ok v w ∧ RV P r (okAt X s β w) w v

def EndsB (P : Program) (fn : Func) (S0 : List (Nat × AV)) (r : D) (S1 : List (Nat × AV)) (e : Exit) (s : St) : Prop := (e = .ret ∨ e = .normal) ∧ ResB P fn s r ∧ allEq s (withA S0 S1) ∧ closedL (withA S0 S1) = true

theorem specB_of' {P : Program} {f : FuncId} {fn : Func} {c : Code} {args : List AV} {S0 S1 : List (Nat × AV)} {r : D} (hf : P.funcs[f]? = some fn) (hb : fn.body = some c) {n : Nat} (hn : fn.ntmps = n) (hl : Nat.blt args.length (n + 1) = true) (hk : (keysL S0).all (Nat.blt 9999) = true) (hk1 : (keysL S1).all (Nat.blt 9999) = true)
    (h : AWs P ⟨n, true⟩ [c] (initB args (withA S0 S0)) (EndsB P fn S0 r S1)) : SpecB P f args S0 r S1 := by
  intro X a β ν vs hr hargs
  have hlen := ArgsV_len hargs
  have hl' := blt_lt hl
  let X2 : Cx := { n := n, w0 := X.w0, ok0 := X.ok0, bor := X.bor, av := X.av, kp := X.kp, defs := [], hok := X.hok }
  have hsm : ∀ t, t < 10000 → ofL (withA S0 S0) t = .any := by
    intro t ht
    apply ofL_off
    simp only [withA, keysL, List.map_cons, List.mem_cons, not_or]
    refine ⟨by omega, fun hm => ?_⟩
    have := blt_lt (List.all_eq_true.1 hk t hm)
    omega
  have hbig : ∀ t, ¬ t < 10000 → initB args (withA S0 S0) t = ofL (withA S0 S0) t := by
    intro t ht
    have : Nat.blt t 10000 = false := by
      cases hb : Nat.blt t 10000
      · rfl
      · exact absurd (blt_lt hb) ht
    simp only [initB, this, cond_false]
  have hlit : ∀ t, t < 10000 → initB args (withA S0 S0) t = initS args t := by
    intro t ht
    have : Nat.blt t 10000 = true := by simp [Nat.blt]; omega
    simp only [initB, this, cond_true]
  have hver : ∀ t, t < 10000 → ver (initB args (withA S0 S0) t) = none := fun t ht => by rw [hlit t ht]; exact VR_ver (ArgsV_get hargs t)
  have hvl : ∀ o, ver (initB args (withA S0 S0) o) = ver (ofL (withA S0 S0) o) ∧ live (initB args (withA S0 S0) o) = live (ofL (withA S0 S0) o) := by
    intro o
    by_cases ho : o < 10000
    · rw [hsm o ho]; exact ⟨hver o ho, live_ver (hver o ho)⟩
    · rw [hbig o ho]; exact ⟨rfl, rfl⟩
  have hok : ∀ b, okAt X (ofL (withA S0 S0)) β X.w0 b → okAt X2 (initB args (withA S0 S0)) β X.w0 b ∧ X.w0.heap[b]? = X.w0.heap[b]? := fun b hb' => ⟨⟨hb'.1, hb'.2.1, fun o hl => hb'.2.2 o (by rw [← (hvl o).2]; exact hl)⟩, rfl⟩
  have hgoes : Goes (ofL (withA S0 S0)) (initB args (withA S0 S0)) β β ν ν := fun o k hk' => ⟨k, by rw [(hvl o).1]; exact hk', Nat.le_refl _, fun _ hl => ⟨by rw [← (hvl o).2]; exact hl, rfl, rfl⟩⟩
  have hg : ∀ t, (vs.toArray ++ Array.replicate (fn.ntmps - vs.toArray.size) undef).getD t undef = vs.getD t undef := by
    intro t
    simp only [Array.getD_eq_getD_getElem?, List.getD_eq_getElem?_getD, Array.getElem?_append, List.getElem?_toArray, List.size_toArray]
    split
    · rfl
    · rename_i hlt
      rw [List.getElem?_eq_none (by omega : vs.length ≤ t)]
      simp only [Array.getElem?_replicate]
      split <;> rfl
  have hr2 : Rel P X2 (initB args (withA S0 S0)) { tmps := vs.toArray ++ Array.replicate (fn.ntmps - vs.toArray.size) undef, defers := [] } X.w0 := by
    refine ⟨β, ν, ?_⟩
    exact {
      os := rfl, tape := rfl, output := rfl, drawn := Nat.le_refl _, size := Nat.le_refl _, frame := fun _ _ _ => rfl
      kept := fun b o hb => ⟨(hok b (hr.kept b o hb).1).1, (hr.kept b o hb).2⟩
      own := fun o b hl hb' => hr.own o b (by rw [← (hvl o).2]; exact hl) hb'
      inj := fun o o' b hl hl' => hr.inj o o' b (by rw [← (hvl o).2]; exact hl) (by rw [← (hvl o').2]; exact hl')
      obj := fun o => by
        by_cases ho : o < 10000
        · exact OR_dead (live_ver (hver o ho))
        · rw [hbig o ho]
          exact OR_mono hok (Nat.le_refl _) hgoes rfl rfl (fun _ _ => rfl) _ (hr.obj o)
      slot := fun t ht => by
        show VR P _ X.w0 _ _ _ _ [(vs.toArray ++ Array.replicate (fn.ntmps - vs.toArray.size) undef).getD t undef]
        rw [hg t, hlit t ht]
        exact VR_mono hok (Nat.le_refl _) hgoes _ (ArgsV_get hargs t)
      keys := hver
      tmps := by simp [X2, hn, hlen]; omega
      defers := rfl
      anch := fun hv => by
        rw [hbig 29999 (by omega)] at hv ⊢
        exact VR_mono hok (Nat.le_refl _) hgoes _ (hr.anch hv) }
  refine calls_of_aft (X := X2) hf hb rfl (fun e s h => h.1) (h.one none X2 _ _ ⟨rfl, fun _ => rfl⟩ hr2) ?_
  rintro e s' X3 a' w' β' ν' ⟨he, hres, hall, hcl⟩ x1 x2 x3 x4 x5 x6 hr'
  obtain ⟨v, hv1, hv2⟩ := hres X3 a' w' β' ν' hr'
  have hr3 := hr'.ofL hall hcl
  have hoke : ∀ (s : St) (b : Nat), okAt X3 s β' w' b → okAt X s β' w' b := fun s b hb' => by
    unfold okAt at hb' ⊢
    rw [x2, x3, x4] at hb'
    exact hb'
  have hsm1 : ∀ t, t < 10000 → ofL (withA S0 S1) t = .any := by
    intro t ht
    apply ofL_off
    simp only [withA, keysL, List.map_cons, List.mem_cons, not_or]
    refine ⟨by omega, fun hm => ?_⟩
    have := blt_lt (List.all_eq_true.1 hk1 t hm)
    omega
  have hlv : ∀ o, live (ofL (withA S0 S1) o) = true → ofL (withA S0 S1) o = s' o := by
    intro o hl
    rcases ofL_cases hall o with h' | ⟨h', _⟩
    · exact h'
    · rw [h'] at hl; cases hl
  refine ⟨v, hv1, v, β', ν', rfl, ?_, RV_mono (fun b hb' => ⟨hoke _ b ⟨hb'.1, hb'.2.1, fun o hl => hb'.2.2 o (by rw [← hlv o hl]; exact hl)⟩, rfl⟩) (Nat.le_refl _) hv2⟩
  have hgr : ∀ x vs, VR P (okAt X3 (ofL (withA S0 S1)) β' w') w' (ofL (withA S0 S1)) β' ν' x vs → VR P (okAt X (ofL (withA S0 S1)) β' w') w' (ofL (withA S0 S1)) β' ν' x vs := fun x vs hv => VR_mono (fun b hb' => ⟨hoke _ b hb', rfl⟩) (Nat.le_refl _) (Goes.refl _ _ _) x hv
  exact {
    os := by rw [hr3.os, x2], tape := by rw [hr3.tape, x2], output := by rw [hr3.output, x2], drawn := by have := hr3.drawn; rw [x2] at this; exact this
    size := by have := hr3.size; rw [x2] at this; exact this
    frame := fun b hb' hn' => by have := hr3.frame b (by rw [x2]; exact hb') (by rw [x4]; exact hn'); rw [x2] at this; exact this
    own := fun o b hl hb' => by have := hr3.own o b hl hb'; rw [x2, x4] at this; exact this
    inj := hr3.inj
    obj := fun o => OR_mono (fun b hb' => ⟨hoke _ b hb', rfl⟩) (Nat.le_refl _) (Goes.refl _ _ _) rfl rfl (fun _ _ => rfl) _ (hr3.obj o)
    slot := fun t ht => by rw [hsm1 t ht]; exact ⟨_, rfl⟩
    keys := fun t ht => by rw [hsm1 t ht]; rfl
    tmps := hr.tmps, defers := hr.defers
    kept := fun b o hb' => by have := hr3.kept b o (by rw [x6]; exact hb'); exact ⟨hoke _ b this.1, this.2⟩
    anch := fun hv => by have := hgr _ _ (hr3.anch hv); rw [x5] at this; exact this }

/-! ### A call -/

section
variable {P : Program}

theorem anchor_exist {ok : Nat → Prop} {w : World} {st : St} {β : Nat → Option Nat} {ν : Nat → Value} : ∀ (l : List (Nat × AV)), (∀ p ∈ l, st p.1 = p.2 ∧ OR P ok w st β ν p.1 p.2) → ∃ caps, VR P ok w st β ν (anchor l) caps
  | [], _ => ⟨[], rfl⟩
  | (k, x) :: l, h => by
    obtain ⟨caps, hc⟩ := anchor_exist l (fun p hp => h p (List.mem_cons_of_mem _ hp))
    obtain ⟨h1, h2⟩ := h (k, x) (List.mem_cons_self ..)
    simp only at h1 h2
    cases x with
    | box u c =>
      obtain ⟨b, cs, ty, g1, _⟩ := h2
      refine ⟨.pointer (some ⟨b, 0, none⟩) :: ν k :: caps, _, _, rfl, ?_, _, _, rfl, ?_, hc⟩
      · exact ⟨_, u, rfl, by rw [h1]; rfl, Nat.le_refl _, fun _ _ => ⟨b, g1, rfl⟩⟩
      · exact ⟨_, u, rfl, by rw [h1]; rfl, Nat.le_refl _, fun _ _ => rfl⟩
    | arr u e sz by_ f z xs => exact ⟨ν k :: caps, _, _, rfl, ⟨_, u, rfl, by rw [h1]; rfl, Nat.le_refl _, fun _ _ => rfl⟩, hc⟩
    | mp u kv vv m =>
      obtain ⟨b, _, _, _, g1, _⟩ := h2
      refine ⟨.pointer (some ⟨b, 0, none⟩) :: ν k :: caps, _, _, rfl, ?_, _, _, rfl, ?_, hc⟩
      · exact ⟨_, u, rfl, by rw [h1]; rfl, Nat.le_refl _, fun _ _ => ⟨b, g1, rfl⟩⟩
      · exact ⟨_, u, rfl, by rw [h1]; rfl, Nat.le_refl _, fun _ _ => rfl⟩
    | _ => exact ⟨caps, hc⟩

/-- What may be handed on: what has an anchor, or nothing yet. -/
def anc : AV → Bool
  | .box .. => true
  | .arr .. => true
  | .mp .. => true
  | .any => true
  | _ => false

/-- What may be handed on to a call that makes objects: the dead, too. -/
def ancD : AV → Bool
  | .dead _ => true
  | x => anc x
theorem anc_D {l : List (Nat × AV)} (h : l.all (fun p => anc p.2) = true) : l.all (fun p => ancD p.2) = true := by
  rw [List.all_eq_true] at h ⊢
  intro p hp
  have := h p hp
  generalize p.2 = x at this ⊢
  cases x <;> first | rfl | cases this

/-- What was dead comes back in a later version. -/
def DeadOk (S1 : List (Nat × AV)) : List (Nat × AV) → Prop
  | [] => True
  | (k, .dead u) :: l => (∃ k', ver (ofL S1 k) = some k' ∧ u < k') ∧ DeadOk S1 l
  | _ :: l => DeadOk S1 l

theorem DeadOk.mem {S1 : List (Nat × AV)} : ∀ {l : List (Nat × AV)}, DeadOk S1 l → ∀ p ∈ l, ∀ u, p.2 = .dead u → ∃ k', ver (ofL S1 p.1) = some k' ∧ u < k'
  | [], _, p, hp, _, _ => by cases hp
  | (k, x) :: l, h, p, hp, u, e => by
    rcases List.mem_cons.1 hp with rfl | hp
    · simp only at e
      subst e
      exact h.1
    · refine DeadOk.mem (l := l) ?_ p hp u e
      cases x <;> first | exact h.2 | exact h

theorem DeadOk.none {S1 : List (Nat × AV)} : ∀ {l : List (Nat × AV)}, l.all (fun p => anc p.2) = true → DeadOk S1 l
  | [], _ => trivial
  | (k, x) :: l, h => by
    rw [List.all_cons, Bool.and_eq_true] at h
    have ih := DeadOk.none (S1 := S1) h.2
    cases x <;> first | exact ih | cases h.1

def isArr : AV → Bool
  | .arr .. => true
  | _ => false

theorem anchor_goes {ok ok' : Nat → Prop} {w w' : World} {s s' : St} {β β' : Nat → Option Nat} {ν ν' : Nat → Value} : ∀ (l : List (Nat × AV)) {caps : List Value}, VR P ok w s β ν (anchor l) caps → VR P ok' w' s' β' ν' (anchor l) caps →
    (∀ p ∈ l, s p.1 = p.2 ∧ ancD p.2 = true ∧ OR P ok w s β ν p.1 p.2) → (∀ p ∈ l, ∀ u, p.2 = .dead u → ∃ k', ver (s' p.1) = some k' ∧ u < k') → (∀ o, OR P ok' w' s' β' ν' o (s' o)) → (∀ p ∈ l, isArr p.2 = true → live (s' p.1) = true → isArr (s' p.1) = true) → ∀ p ∈ l, GoesAt s s' β β' ν ν' p.1
  | [], _, _, _, _, _, _, _, p, hp => by cases hp
  | (k, x) :: l, caps, h1, h2, hs, hdd, ho, hka, p, hp => by
    obtain ⟨g1, g2, g3⟩ := hs (k, x) (List.mem_cons_self ..)
    simp only at g1 g2 g3
    cases x with
    | box u c =>
      obtain ⟨v, vs, rfl, a1, v2, vs2, rfl, a2, a3⟩ := h1
      obtain ⟨v', vs', e, b1, v2', vs2', e2, b2, b3⟩ := h2
      cases e; cases e2
      rcases List.mem_cons.1 hp with rfl | hp
      · intro m hm
        simp only at hm ⊢
        rw [g1] at hm
        simp only [ver, Option.some.injEq] at hm
        subst hm
        obtain ⟨q, k1, e, c1, c2, c3⟩ := b1
        obtain ⟨q2, k2, e2, d1, d2, d3⟩ := b2
        obtain ⟨q3, k3, e3, f1, f2, f3⟩ := a1
        obtain ⟨q4, k4, e4, i1, i2, i3⟩ := a2
        simp only [List.cons.injEq, and_true] at e e2 e3 e4
        rw [g1] at f1 i1
        simp only [ver, Option.some.injEq] at f1 i1
        refine ⟨k1, c1, c2, fun hk hl => ?_⟩
        rw [c1] at d1
        cases d1
        obtain ⟨b, hb1, hb2⟩ := c3 hk.symm hl
        obtain ⟨b', hb3, hb4⟩ := f3 f1 (by rw [g1]; rfl)
        refine ⟨by rw [g1]; rfl, ?_, ?_⟩
        · rw [hb1, hb3]
          rw [← e, e3, hb4] at hb2
          cases hb2
          rfl
        · rw [← d3 hk.symm hl, ← i3 i1 (by rw [g1]; rfl), ← e2, e4]
      · exact anchor_goes l a3 b3 (fun q hq => hs q (List.mem_cons_of_mem _ hq)) (fun q hq => hdd q (List.mem_cons_of_mem _ hq)) ho (fun q hq => hka q (List.mem_cons_of_mem _ hq)) p hp
    | mp u kv vv m =>
      obtain ⟨v, vs, rfl, a1, v2, vs2, rfl, a2, a3⟩ := h1
      obtain ⟨v', vs', e, b1, v2', vs2', e2, b2, b3⟩ := h2
      cases e; cases e2
      rcases List.mem_cons.1 hp with rfl | hp
      · intro m hm
        simp only at hm ⊢
        rw [g1] at hm
        simp only [ver, Option.some.injEq] at hm
        subst hm
        obtain ⟨q, k1, e, c1, c2, c3⟩ := b1
        obtain ⟨q2, k2, e2, d1, d2, d3⟩ := b2
        obtain ⟨q3, k3, e3, f1, f2, f3⟩ := a1
        obtain ⟨q4, k4, e4, i1, i2, i3⟩ := a2
        simp only [List.cons.injEq, and_true] at e e2 e3 e4
        rw [g1] at f1 i1
        simp only [ver, Option.some.injEq] at f1 i1
        refine ⟨k1, c1, c2, fun hk hl => ?_⟩
        rw [c1] at d1
        cases d1
        obtain ⟨b, hb1, hb2⟩ := c3 hk.symm hl
        obtain ⟨b', hb3, hb4⟩ := f3 f1 (by rw [g1]; rfl)
        refine ⟨by rw [g1]; rfl, ?_, ?_⟩
        · rw [hb1, hb3]
          rw [← e, e3, hb4] at hb2
          cases hb2
          rfl
        · rw [← d3 hk.symm hl, ← i3 i1 (by rw [g1]; rfl), ← e2, e4]
      · exact anchor_goes l a3 b3 (fun q hq => hs q (List.mem_cons_of_mem _ hq)) (fun q hq => hdd q (List.mem_cons_of_mem _ hq)) ho (fun q hq => hka q (List.mem_cons_of_mem _ hq)) p hp
    | arr u e0 sz by_ f z xs =>
      obtain ⟨v, vs, rfl, a1, a3⟩ := h1
      obtain ⟨v', vs', e, b1, b3⟩ := h2
      cases e
      rcases List.mem_cons.1 hp with rfl | hp
      · intro m hm
        simp only at hm ⊢
        rw [g1] at hm
        simp only [ver, Option.some.injEq] at hm
        subst hm
        obtain ⟨q, k1, e, c1, c2, c3⟩ := b1
        obtain ⟨q3, k3, e3, f1, f2, f3⟩ := a1
        simp only [List.cons.injEq, and_true] at e e3
        rw [g1] at f1
        simp only [ver, Option.some.injEq] at f1
        refine ⟨k1, c1, c2, fun hk hl => ?_⟩
        have hν : ν' k = ν k := by rw [← c3 hk.symm hl, ← f3 f1 (by rw [g1]; rfl), ← e, e3]
        refine ⟨by rw [g1]; rfl, ?_, hν⟩
        have ha := hka (k, .arr u e0 sz by_ f z xs) (List.mem_cons_self ..) rfl hl
        simp only at ha
        have ho' := ho k
        obtain ⟨_, _, hb0, _⟩ := g3
        generalize s' k = y at ha ho'
        cases y with
        | arr u' e' sz' by' f' z' xs' =>
          obtain ⟨_, _, hb1, _⟩ := ho'
          rw [hb1, hb0, hν]
        | _ => cases ha
      · exact anchor_goes l a3 b3 (fun q hq => hs q (List.mem_cons_of_mem _ hq)) (fun q hq => hdd q (List.mem_cons_of_mem _ hq)) ho (fun q hq => hka q (List.mem_cons_of_mem _ hq)) p hp
    | dead u =>
      rcases List.mem_cons.1 hp with rfl | hp
      · intro m hm
        simp only at hm ⊢
        rw [g1] at hm
        simp only [ver, Option.some.injEq] at hm
        subst hm
        obtain ⟨k', e1, e2⟩ := hdd (k, .dead u) (List.mem_cons_self ..) u rfl
        exact ⟨k', e1, by omega, fun e _ => by omega⟩
      · exact anchor_goes l h1 h2 (fun q hq => hs q (List.mem_cons_of_mem _ hq)) (fun q hq => hdd q (List.mem_cons_of_mem _ hq)) ho (fun q hq => hka q (List.mem_cons_of_mem _ hq)) p hp
    | any =>
      rcases List.mem_cons.1 hp with rfl | hp
      · intro m hm
        simp only at hm
        rw [g1] at hm
        cases hm
      · exact anchor_goes l h1 h2 (fun q hq => hs q (List.mem_cons_of_mem _ hq)) (fun q hq => hdd q (List.mem_cons_of_mem _ hq)) ho (fun q hq => hka q (List.mem_cons_of_mem _ hq)) p hp
    | _ => cases g2

theorem ArgsV_mono {ok ok' : Nat → Prop} {w : World} {s s' : St} {β β' : Nat → Option Nat} {ν ν' : Nat → Value} (hk : ∀ b, ok b → ok' b) : ∀ {args : List AV} {vs : List Value}, (∀ y ∈ args, ∀ o ∈ ment y, GoesAt s s' β β' ν ν' o) → ArgsV P ok w s β ν args vs → ArgsV P ok' w s' β' ν' args vs
  | [], _, _, h => h
  | x :: xs, _, hm, h => by
    obtain ⟨v, vs', rfl, h1, h2⟩ := h
    exact ⟨v, vs', rfl, VR_mono' (fun b hb => ⟨hk b hb, rfl⟩) (Nat.le_refl _) x (hm x (List.mem_cons_self ..)) h1, ArgsV_mono hk (fun y hy => hm y (List.mem_cons_of_mem _ hy)) h2⟩

theorem closedL_mem {l : List (Nat × AV)} (hc : closedL l = true) {p : Nat × AV} (hp : p ∈ l) : ∀ o ∈ ment p.2, o ∈ keysL l := by
  intro o ho
  simp only [closedL, List.all_eq_true, List.any_eq_true] at hc
  obtain ⟨q, hq, hqe⟩ := hc p hp o ho
  have := Nat.eq_of_beq_eq_true hqe
  subst this
  exact List.mem_map.2 ⟨q, hq, rfl⟩

theorem ofL_mem {l : List (Nat × AV)} {k : Nat} (h : k ∈ keysL l) : (k, ofL l k) ∈ l := by
  induction l with
  | nil => cases h
  | cons p l ih =>
    obtain ⟨j, x⟩ := p
    by_cases e : k = j
    · subst e; simp [ofL]
    · have hb : Nat.beq k j = false := by
        cases hb : Nat.beq k j
        · rfl
        · exact absurd (Nat.eq_of_beq_eq_true hb) e
      simp only [keysL, List.map_cons, List.mem_cons] at h
      rw [ofL, hb]
      exact List.mem_cons_of_mem _ (ih (h.resolve_left e))

theorem withA_on {S0 S : List (Nat × AV)} {k : Nat} (h : k ≠ 29999) : ofL (withA S0 S) k = ofL S k := by
  have hb : Nat.beq k 29999 = false := by
    cases hb : Nat.beq k 29999
    · rfl
    · exact absurd (Nat.eq_of_beq_eq_true hb) h
  rw [withA, ofL, hb]
  rfl
theorem withA_at {S0 S : List (Nat × AV)} : ofL (withA S0 S) 29999 = .clo 0 (anchor S0) := rfl

theorem anchor_ment : ∀ (l : List (Nat × AV)), ∀ o ∈ ment (anchor l), o ∈ keysL l
  | [], o, h => by cases h
  | (k, x) :: l, o, h => by
    have ih := anchor_ment l o
    simp only [keysL, List.map_cons, List.mem_cons]
    cases x with
    | box u c =>
      simp only [anchor, ment, List.cons_append, List.nil_append, List.mem_cons] at h
      rcases h with h | h | h
      · exact .inl h
      · exact .inl h
      · exact .inr (ih h)
    | mp u kv vv m =>
      simp only [anchor, ment, List.cons_append, List.nil_append, List.mem_cons] at h
      rcases h with h | h | h
      · exact .inl h
      · exact .inl h
      · exact .inr (ih h)
    | arr u e sz by_ f z xs =>
      simp only [anchor, ment, List.cons_append, List.nil_append, List.mem_cons] at h
      rcases h with h | h
      · exact .inl h
      · exact .inr (ih h)
    | _ => exact .inr (ih h)

/-- A frame's objects handed on, and taken back changed. -/
theorem callB_core {X : Cx} {t : St} {a : Act} {w : World} {β : Nat → Option Nat} {ν : Nat → Value} (hr : RelB P X t a w β ν) {S0 : List (Nat × AV)}
    (hS : allEq t S0) (hlv : S0.all (fun p => ancD p.2) = true) (hc0 : closedL S0 = true) (hk4 : (keysL S0).all (fun k => Nat.blt 9999 k && !Nat.beq k 29999) = true) :
    ∃ X' : Cx, X'.n = a.tmps.size ∧ X'.w0 = w ∧ X'.defs = a.defers ∧ (∀ b, X'.kp b = none) ∧ RelB P X' (ofL (withA S0 S0)) a w β ν ∧ (∀ b, okAt X t β w b → okAt X' (ofL (withA S0 S0)) β w b) ∧ (∀ b, okAt X t β w b → X'.ok0 b ∧ ¬ X'.bor b) ∧ (∀ o ∈ keysL S0, GoesAt t (ofL (withA S0 S0)) β β ν ν o) ∧
      ∀ (S1 : List (Nat × AV)), DeadOk S1 S0 → closedL S1 = true → keysL S1 = keysL S0 → S0.all (fun p => !isArr p.2 || !live (ofL S1 p.1) || isArr (ofL S1 p.1)) = true → ∀ w' β1 ν1, RelB P X' (ofL (withA S0 S1)) a w' β1 ν1 →
        ∃ β' ν', RelB P X (updL t S1) a w' β' ν' ∧ (∀ b, okAt X' (ofL (withA S0 S1)) β1 w' b → okAt X (updL t S1) β' w' b) ∧ (∀ b, okAt X t β w b → okAt X (updL t S1) β' w' b ∧ w'.heap[b]? = w.heap[b]?) ∧ ∀ o ∈ keysL S0, GoesAt (ofL (withA S0 S1)) (updL t S1) β1 β' ν1 ν' o := by
  have hne : ∀ o ∈ keysL S0, o ≠ 29999 ∧ 10000 ≤ o := by
    intro o ho
    have := List.all_eq_true.1 hk4 o ho
    simp only [Bool.and_eq_true, Bool.not_eq_true'] at this
    refine ⟨fun e => ?_, by have := blt_lt this.1; omega⟩
    rw [e] at this
    exact absurd this.2 (by decide)
  have hin : ∀ o ∈ keysL S0, t o = ofL S0 o := fun o ho => allEq_mem hS _ (ofL_mem ho)
  have hst : ∀ o ∈ keysL S0, ofL (withA S0 S0) o = t o := fun o ho => by rw [withA_on (hne o ho).1, hin o ho]
  have hst' : ∀ o, o ∉ keysL S0 → live (ofL (withA S0 S0) o) = false ∧ ver (ofL (withA S0 S0) o) = none := by
    intro o ho
    by_cases e : o = 29999
    · subst e; exact ⟨rfl, rfl⟩
    · rw [withA_on e, ofL_off ho]; exact ⟨rfl, rfl⟩
  have hliv0 : ∀ o, live (ofL (withA S0 S0) o) = true → o ∈ keysL S0 := fun o hl => by
    apply Decidable.byContradiction
    intro hn
    rw [(hst' o hn).1] at hl
    cases hl
  have hOR : ∀ o ∈ keysL S0, OR P (okAt X t β w) w t β ν o (ofL S0 o) := fun o ho => by rw [← hin o ho]; exact hr.obj o
  -- the callee's view
  have hg0 : ∀ o ∈ keysL S0, GoesAt t (ofL (withA S0 S0)) β β ν ν o := fun o ho k hk => ⟨k, by rw [hst o ho]; exact hk, Nat.le_refl _, fun _ hl => ⟨by rw [← hst o ho]; exact hl, rfl, rfl⟩⟩
  obtain ⟨caps, hcaps⟩ := anchor_exist (P := P) (ok := okAt X t β w) (w := w) (st := t) (β := β) (ν := ν) S0 (fun p hp => ⟨allEq_mem hS p hp, by have := hr.obj p.1; rw [allEq_mem hS p hp] at this; exact this⟩)
  let X' : Cx := ⟨a.tmps.size, w, okAt X t β w, fun b => (∃ o ∈ keysL S0, live (t o) = true ∧ β o = some b), Value.func (Fn.func 0) #[] caps.toArray, fun _ => none, a.defers, fun b hb => ⟨hb.2.1, fun h => by obtain ⟨o, ho, hlo, h⟩ := h; exact hb.2.2 o hlo h⟩⟩
  have hlt : ∀ o, live (ofL (withA S0 S0) o) = true → live (t o) = true := fun o hl => by rw [← hst o (hliv0 o hl)]; exact hl
  have hok0 : ∀ b, okAt X t β w b → okAt X' (ofL (withA S0 S0)) β w b := fun b hb => ⟨.inl hb, hb.2.1, fun o hl => hb.2.2 o (hlt o hl)⟩
  have hr0 : RelB P X' (ofL (withA S0 S0)) a w β ν := {
    os := rfl, tape := rfl, output := rfl, drawn := Nat.le_refl _, size := Nat.le_refl _, frame := fun _ _ _ => rfl
    kept := fun _ _ h => by (cases h)
    own := fun o b hl hb => ⟨.inr ⟨o, hliv0 o hl, hlt o hl, hb⟩, (hr.own o b (hlt o hl) hb).2⟩
    inj := fun o o' b hl hl' => hr.inj o o' b (hlt o hl) (hlt o' hl')
    obj := fun o => by
      by_cases ho : o ∈ keysL S0
      · have h1 := hOR o ho
        rw [hst o ho, hin o ho]
        have hmem := closedL_mem hc0 (ofL_mem ho)
        generalize ofL S0 o = x at h1 hmem
        cases x with
        | box u c =>
          obtain ⟨b, cs, ty, g1, g2, g3, g4⟩ := h1
          exact ⟨b, cs, ty, g1, g2, g3, VR_mono' (fun b hb => ⟨hok0 b hb, rfl⟩) (Nat.le_refl _) c (fun o' ho' => hg0 o' (hmem o' ho')) g4⟩
        | arr u e sz by_ f z xs =>
          obtain ⟨cells, g1, g2, g3, g4, g5, g6, g7⟩ := h1
          exact ⟨cells, g1, g2, g3, g4, g5, g6, fun i hi => R_mono _ (fun b hb => ⟨hok0 b hb, rfl⟩) (Nat.le_refl _) (g7 i hi)⟩
        | mp u kv vv m => exact h1
        | tl u e sz by_ f z xs =>
          obtain ⟨g, k, c, off, cells, g1, g2, g3, g4, g5, g6, g7, g8⟩ := h1
          exact ⟨g, k, c, off, cells, g1, g2, g3, g4, g5, g6, g7, fun i hi => R_mono _ (fun b hb => ⟨hok0 b hb, rfl⟩) (Nat.le_refl _) (g8 i hi)⟩
        | _ => trivial
      · exact OR_dead (hst' o ho).1
    slot := fun k hk => by
      have : k ∉ keysL S0 := fun h => by have := (hne k h).2; omega
      rw [withA_on (by omega), ofL_off this]
      exact ⟨_, rfl⟩
    keys := fun k hk => (hst' k (fun h => by have := (hne k h).2; omega)).2
    tmps := rfl, defers := rfl
    anch := fun _ => ⟨caps.toArray, rfl, by
      show VR P _ w _ β ν (anchor S0) caps.toArray.toList
      simp only []
      exact VR_mono' (fun b hb => ⟨hok0 b hb, rfl⟩) (Nat.le_refl _) _ (fun o ho => hg0 o (anchor_ment S0 o ho)) hcaps⟩ }
  have hpos : ∀ b, okAt X t β w b → ¬ X'.bor b := fun b hb ⟨o, ho, hlo, h⟩ => hb.2.2 o hlo h
  refine ⟨X', rfl, rfl, rfl, fun _ => rfl, hr0, hok0, fun b hb => ⟨hb, hpos b hb⟩, hg0, ?_⟩
  intro S1 hdd hc1 hkk hkind w' β1 ν1 hr1
  have hn1 : ∀ o ∈ keysL S0, ofL (withA S0 S1) o = ofL S1 o := fun o ho => withA_on (hne o ho).1
  have hoff1 : ∀ o, o ∉ keysL S0 → live (ofL (withA S0 S1) o) = false := fun o ho => by
    by_cases e : o = 29999
    · subst e; rfl
    · rw [withA_on e, ofL_off (by rw [hkk]; exact ho)]; rfl
  have ht1 : ∀ o ∈ keysL S0, updL t S1 o = ofL S1 o := fun o ho => updL_on (by rw [hkk]; exact ho)
  have ht2 : ∀ o, o ∉ keysL S0 → updL t S1 o = t o := fun o ho => updL_off (by rw [hkk]; exact ho)
  have hgk : ∀ p ∈ S0, GoesAt t (ofL (withA S0 S1)) β β1 ν ν1 p.1 := by
    obtain ⟨caps', he, hc'⟩ := hr1.anch rfl
    have he' : caps' = caps.toArray := by simp only [List.cons.injEq, and_true] at he; cases he; rfl
    subst he'
    refine anchor_goes S0 hcaps (by simpa using hc') (fun p hp => ⟨allEq_mem hS p hp, List.all_eq_true.1 hlv p hp, by have := hr.obj p.1; rw [allEq_mem hS p hp] at this; exact this⟩) (fun p hp u e => by rw [withA_on (hne p.1 (List.mem_map.2 ⟨p, hp, rfl⟩)).1]; exact hdd.mem p hp u e) (fun o => hr1.obj o) (fun p hp h1 h2 => ?_)
    have hk := List.all_eq_true.1 hkind p hp
    rw [withA_on (hne p.1 (List.mem_map.2 ⟨p, hp, rfl⟩)).1] at h2 ⊢
    simpa [h1, h2] using hk
  have hgk' : ∀ o ∈ keysL S0, GoesAt t (ofL (withA S0 S1)) β β1 ν ν1 o := fun o ho => by
    obtain ⟨p, hp, rfl⟩ := List.mem_map.1 ho
    exact hgk p hp
  obtain ⟨β2, hβ2⟩ : ∃ β2 : Nat → Option Nat, β2 = fun o => if o ∈ keysL S0 then β1 o else β o := ⟨_, rfl⟩
  obtain ⟨ν2, hν2⟩ : ∃ ν2 : Nat → Value, ν2 = fun o => if o ∈ keysL S0 then ν1 o else ν o := ⟨_, rfl⟩
  have b1 : ∀ o ∈ keysL S0, β2 o = β1 o ∧ ν2 o = ν1 o := fun o ho => by rw [hβ2, hν2]; simp [ho]
  have b2 : ∀ o, o ∉ keysL S0 → β2 o = β o ∧ ν2 o = ν o := fun o ho => by rw [hβ2, hν2]; simp [ho]
  have hlive1 : ∀ o ∈ keysL S0, live (updL t S1 o) = true → live (ofL (withA S0 S1) o) = true := fun o ho hl => by rw [hn1 o ho, ← ht1 o ho]; exact hl
  have hsz : w.heap.size ≤ w'.heap.size := hr1.size
  have hkeep : ∀ b, b < w.heap.size → ¬ X'.bor b → w'.heap[b]? = w.heap[b]? := fun b h1 h2 => hr1.frame b h1 h2
  have hout : ∀ o, o ∉ keysL S0 → live (t o) = true → ∀ b, β o = some b → b < w.heap.size ∧ ¬ X'.bor b := fun o ho hl b hb => ⟨(hr.own o b hl hb).2, fun ⟨o', ho', hlo, h⟩ => ho (by
    have := hr.inj o o' b hl hlo hb h
    rw [this]; exact ho')⟩
  have hokT : ∀ b, okAt X t β w b → okAt X (updL t S1) β2 w' b ∧ w'.heap[b]? = w.heap[b]? := by
    intro b hb
    refine ⟨⟨hb.1, Nat.lt_of_lt_of_le hb.2.1 hsz, fun o hl h => ?_⟩, hkeep b hb.2.1 (hpos b hb)⟩
    by_cases ho : o ∈ keysL S0
    · rw [(b1 o ho).1] at h
      rcases (hr1.own o b (hlive1 o ho hl) h).1 with h1 | h1
      · exact absurd hb.2.1 (Nat.not_lt.2 h1)
      · exact hpos b hb h1
    · rw [(b2 o ho).1] at h
      rw [ht2 o ho] at hl
      exact hb.2.2 o hl h
  have hgT : Goes t (updL t S1) β β2 ν ν2 := by
    intro o k hk
    by_cases ho : o ∈ keysL S0
    · obtain ⟨k', h1, h2, h3⟩ := hgk' o ho k hk
      refine ⟨k', by rw [ht1 o ho, ← hn1 o ho]; exact h1, h2, fun e hl => ?_⟩
      rw [(b1 o ho).1, (b1 o ho).2]
      exact h3 e (hlive1 o ho hl)
    · exact ⟨k, by rw [ht2 o ho]; exact hk, Nat.le_refl _, fun _ hl => ⟨by rw [← ht2 o ho]; exact hl, (b2 o ho).1, (b2 o ho).2⟩⟩
  have hok1 : ∀ b, okAt X' (ofL (withA S0 S1)) β1 w' b → okAt X (updL t S1) β2 w' b := by
    intro b hb
    refine ⟨?_, hb.2.1, fun o hl h => ?_⟩
    · rcases hb.1 with h1 | h1 | ⟨o, ho, hlo, h1⟩
      · exact h1.1
      · exact .inr (.inl (Nat.le_trans hr.size h1))
      · exact .inr ((hr.own o b hlo h1).1)
    · by_cases ho : o ∈ keysL S0
      · rw [(b1 o ho).1] at h
        exact hb.2.2 o (hlive1 o ho hl) h
      · rw [(b2 o ho).1] at h
        rw [ht2 o ho] at hl
        have := hout o ho hl b h
        rcases hb.1 with h1 | h1 | h1
        · exact h1.2.2 o hl h
        · exact absurd this.1 (Nat.not_lt.2 h1)
        · exact this.2 h1
  have hg1 : ∀ o ∈ keysL S0, GoesAt (ofL (withA S0 S1)) (updL t S1) β1 β2 ν1 ν2 o := fun o ho k hk => ⟨k, by rw [ht1 o ho, ← hn1 o ho]; exact hk, Nat.le_refl _, fun _ hl => ⟨hlive1 o ho hl, (b1 o ho).1, (b1 o ho).2⟩⟩
  refine ⟨β2, ν2, hr.move hr1.os hr1.tape ⟨hr1.output, hr1.drawn⟩ hsz ?_ hokT hgT ?_ ?_ ?_ ?_ ?_ rfl rfl ?_, hok1, hokT, hg1⟩
  · intro b hb hn
    refine hkeep b (Nat.lt_of_lt_of_le hb hr.size) (fun ⟨o, ho, hlo, h⟩ => ?_)
    rcases (hr.own o b hlo h).1 with h1 | h1
    · omega
    · exact hn h1
  · intro o b hl h
    by_cases ho : o ∈ keysL S0
    · rw [(b1 o ho).1] at h
      have h2 := hr1.own o b (hlive1 o ho hl) h
      right
      refine ⟨?_, h2.2⟩
      rcases h2.1 with h1 | ⟨o', ho', hlo, h1⟩
      · exact .inl (Nat.le_trans hr.size h1)
      · exact (hr.own o' b hlo h1).1
    · rw [(b2 o ho).1] at h
      rw [ht2 o ho] at hl
      exact .inl ⟨hl, h⟩
  · intro o o' b hl hl' h h'
    by_cases ho : o ∈ keysL S0
    · by_cases ho' : o' ∈ keysL S0
      · rw [(b1 o ho).1] at h
        rw [(b1 o' ho').1] at h'
        exact hr1.inj o o' b (hlive1 o ho hl) (hlive1 o' ho' hl') h h'
      · rw [(b1 o ho).1] at h
        rw [(b2 o' ho').1] at h'
        rw [ht2 o' ho'] at hl'
        have h3 := hout o' ho' hl' b h'
        rcases (hr1.own o b (hlive1 o ho hl) h).1 with h1 | h1
        · exact absurd h3.1 (Nat.not_lt.2 h1)
        · exact absurd h1 h3.2
    · by_cases ho' : o' ∈ keysL S0
      · rw [(b2 o ho).1] at h
        rw [(b1 o' ho').1] at h'
        rw [ht2 o ho] at hl
        have h3 := hout o ho hl b h
        rcases (hr1.own o' b (hlive1 o' ho' hl') h').1 with h1 | h1
        · exact absurd h3.1 (Nat.not_lt.2 h1)
        · exact absurd h1 h3.2
      · rw [(b2 o ho).1] at h
        rw [(b2 o' ho').1] at h'
        rw [ht2 o ho] at hl
        rw [ht2 o' ho'] at hl'
        exact hr.inj o o' b hl hl' h h'
  · intro o hl
    by_cases ho : o ∈ keysL S0
    · right
      have h1 := hr1.obj o
      rw [hn1 o ho] at h1
      rw [ht1 o ho]
      have hmem : ∀ o' ∈ ment (ofL S1 o), o' ∈ keysL S0 := fun o' ho' => by rw [← hkk]; exact closedL_mem hc1 (ofL_mem (by rw [hkk]; exact ho)) o' ho'
      generalize ofL S1 o = x at h1 hmem
      cases x with
      | box u c =>
        obtain ⟨b, cs, ty, g1, g2, g3, g4⟩ := h1
        exact ⟨b, cs, ty, by rw [(b1 o ho).1]; exact g1, g2, g3, VR_mono' (fun b hb => ⟨hok1 b hb, rfl⟩) (Nat.le_refl _) c (fun o' ho' => hg1 o' (hmem o' ho')) g4⟩
      | arr u e sz by_ f z xs =>
        obtain ⟨cells, g1, g2, g3, g4, g5, g6, g7⟩ := h1
        exact ⟨cells, by rw [(b1 o ho).2]; exact g1, by rw [(b1 o ho).1, (b1 o ho).2]; exact g2, g3, g4, g5, g6, fun i hi => R_mono _ (fun b hb => ⟨hok1 b hb, rfl⟩) (Nat.le_refl _) (g7 i hi)⟩
      | mp u kv vv m =>
        obtain ⟨b, es, cl, g1, g2, g3, g4⟩ := h1
        exact ⟨b, es, cl, by rw [(b1 o ho).2]; exact g1, by rw [(b1 o ho).1]; exact g2, g3, g4⟩
      | tl u e sz by_ f z xs =>
        obtain ⟨g, k, c, off, cells, g1, g2, g3, g4, g5, g6, g7, g8⟩ := h1
        exact ⟨g, k, c, off, cells, g1, by rw [(b1 o ho).2]; exact g2, by rw [(b1 o ho).1]; exact g3, g4, g5, g6, g7, fun i hi => R_mono _ (fun b hb => ⟨hok1 b hb, rfl⟩) (Nat.le_refl _) (g8 i hi)⟩
      | _ => trivial
    · left
      rw [ht2 o ho] at hl
      exact ⟨ht2 o ho, (b2 o ho).1, (b2 o ho).2, fun b hb => by have := hout o ho hl b hb; exact hkeep b this.1 this.2⟩
  · intro k hk
    left
    exact ⟨ht2 k (fun h => by have := (hne k h).2; omega), rfl⟩
  · intro k hk
    rw [ht2 k (fun h => by have := (hne k h).2; omega)]
    exact hr.keys k hk
  · intro _
    left
    exact ht2 29999 (fun h => (hne _ h).1 rfl)

/-- A call that changes objects of the frame. -/
theorem callB_rel {X : Cx} {t : St} {a : Act} {w : World} {β : Nat → Option Nat} {ν : Nat → Value} (hr : RelB P X t a w β ν) {f : FuncId} {args : List AV} {vs : List Value} {S0 S1 : List (Nat × AV)} {r : D}
    (hS : allEq t S0) (hlv : S0.all (fun p => anc p.2) = true) (hc0 : closedL S0 = true) (hc1 : closedL S1 = true) (hkk : keysL S1 = keysL S0) (hk4 : (keysL S0).all (fun k => Nat.blt 9999 k && !Nat.beq k 29999) = true)
    (hkind : S0.all (fun p => !isArr p.2 || !live (ofL S1 p.1) || isArr (ofL S1 p.1)) = true)
    (hargs : ArgsV P (okAt X t β w) w t β ν args vs) (hm : args.all (fun y => (ment y).all (fun o => (keysL S0).contains o)) = true) (hs : SpecB P f args S0 r S1) :
    Calls P f vs.toArray w (fun e w' => ∃ v β' ν', e = .returned v ∧ RelB P X (updL t S1) a w' β' ν' ∧ RV P r (okAt X (updL t S1) β' w') w' v) := by
  obtain ⟨X', _, hXw, _, _, hr0, hok0, _, hg0, hback⟩ := callB_core hr hS (anc_D hlv) hc0 hk4
  subst hXw
  have hargs0 : ArgsV P (okAt X' (ofL (withA S0 S0)) β X'.w0) X'.w0 (ofL (withA S0 S0)) β ν args vs := ArgsV_mono hok0 (fun y hy o ho => by
    have := List.all_eq_true.1 (List.all_eq_true.1 hm y hy) o ho
    exact hg0 o (by simpa using this)) hargs
  refine (hs X' a β ν vs hr0 hargs0).mono ?_
  rintro e w' ⟨v, β1, ν1, rfl, hr1, hv⟩
  obtain ⟨β', ν', h1, h2, _, _⟩ := hback S1 (DeadOk.none hlv) hc1 hkk hkind w' β1 ν1 hr1
  exact ⟨v, β', ν', rfl, h1, RV_mono (fun b hb => ⟨h2 b hb, rfl⟩) (Nat.le_refl _) hv⟩

def VArgs (s : St) : List Operand → List AV → Prop
  | [], ys => ys = []
  | x :: xs, ys => ∃ y ys', ys = y :: ys' ∧ Sees (ev s x) y ∧ VArgs s xs ys'

def chainL : List AV → AV
  | [] => .cnil
  | x :: l => .ccons x (chainL l)

section
variable {n : Nat} {ops : Array Oper} {s : St} {o : Oper}

theorem VArgs.args {X : Cx} {t : St} {a : Act} {w : World} {β : Nat → Option Nat} {ν : Nat → Value} (hr : RelB P X t a w β ν) : ∀ {xs : List Operand} {ys : List AV}, (∀ k ∈ kxl xs, t k = s k) → VArgs s xs ys → ArgsV P (okAt X t β w) w t β ν ys (xs.map a.eval)
  | [], ys, _, h => by simp only [VArgs] at h; subst h; rfl
  | x :: xs, ys, hk, h => by
    obtain ⟨y, ys', rfl, h1, h2⟩ := h
    exact ⟨a.eval x, xs.map a.eval, rfl, hr.sees (fun k hk' => hk k (by simp [kxl, hk'])) h1, VArgs.args hr (fun k hk' => hk k (by simp [kxl, hk'])) h2⟩

theorem ArgsV_app {ok : Nat → Prop} {w : World} {st : St} {β : Nat → Option Nat} {ν : Nat → Value} : ∀ {xs ys : List AV} {vs us : List Value}, ArgsV P ok w st β ν xs vs → ArgsV P ok w st β ν ys us → ArgsV P ok w st β ν (xs ++ ys) (vs ++ us)
  | [], _, _, _, h, h' => by simp only [ArgsV] at h; subst h; exact h'
  | x :: xs, _, _, _, h, h' => by obtain ⟨v, vs', rfl, h1, h2⟩ := h; exact ⟨v, vs' ++ _, rfl, h1, ArgsV_app h2 h'⟩

theorem ArgsV_chain {ok : Nat → Prop} {w : World} {st : St} {β : Nat → Option Nat} {ν : Nat → Value} : ∀ {us : List AV} {vs : List Value}, VR P ok w st β ν (chainL us) vs → ArgsV P ok w st β ν us vs
  | [], _, h => h
  | x :: us, _, h => by obtain ⟨v, vs', rfl, h1, h2⟩ := h; exact ⟨v, vs', rfl, h1, ArgsV_chain h2⟩

theorem allEq_of {s t : St} : ∀ {l : List (Nat × AV)}, (∀ k ∈ keysL l, t k = s k) → allEq s l → allEq t l
  | [], _, _ => trivial
  | (k, x) :: l, hk, h => ⟨by rw [hk k (by simp [keysL])]; exact h.1, allEq_of (fun j hj => hk j (by simp only [keysL, List.map_cons, List.mem_cons]; exact .inr hj)) h.2⟩

theorem ovr_L {t : St} {d : Nat} {y : AV} {S1 : List (Nat × AV)} : ovr t (d :: keysL S1) (upd (updL s S1) d y) = upd (updL t S1) d y := by
  funext k
  simp only [ovr]
  by_cases e : k = d
  · subst e; simp [upd_same]
  · rw [upd_ne _ _ e, upd_ne _ _ e]
    by_cases hk : k ∈ keysL S1
    · rw [if_pos (List.mem_cons_of_mem _ hk), updL_on hk, updL_on hk]
    · rw [if_neg (by simp [e, hk]), updL_off hk]

/-- The side conditions of a call that changes objects. -/
def okB (args : List AV) (S0 S1 : List (Nat × AV)) : Bool :=
  S0.all (fun p => anc p.2) && (closedL S0 && (closedL S1 && ((keysL S0).all (fun k => Nat.blt 9999 k && !Nat.beq k 29999) && (S0.all (fun p => !isArr p.2 || !live (ofL S1 p.1) || isArr (ofL S1 p.1)) && args.all (fun y => (ment y).all (fun o => (keysL S0).contains o))))))

theorem r_callB {f : FuncId} {xs : List Operand} {T : Array TypeId} {ys : List AV} {S0 S1 : List (Nat × AV)} {r : D} {d : Nat} (ho : o.op = .call { callee := .value (.func f), args := xs.toArray, argTypes := T }) (hf : IsFn P f) (hs : SpecB P f ys S0 r S1) (hx : VArgs s xs ys) (hS : allEq s S0)
    (hkk : keysL S1 = keysL S0) (hok : okB ys S0 S1 = true) (hd : o.dst = some d) (hg : o.guard = none) (hn : Nat.blt d n = true) (h4 : Nat.blt d 10000 = true) :
    LStep P n ops o (kxl xs ++ keysL S0, d :: keysL S1) s (upd (updL s S1) d (.val r)) := by
  simp only [okB, Bool.and_eq_true] at hok
  refine ⟨fun k hk => ?_, fun X t a w hX hk hr Q => ?_⟩
  · simp only [List.mem_cons, not_or] at hk
    rw [upd_ne _ _ hk.1, updL_off hk.2]
  · obtain ⟨β, ν, hr⟩ := hr
    have hrun : (execOp a.eval o).run P w = .ok (.enter f (xs.map a.eval).toArray) w := by
      simp [execOp, ho, resolve, Act.eval, Deferred.ofValue, invoke, run_callFunc hf]
    unfold opWp
    rw [if_pos (by simp [Region.wanted, hg])]
    left
    unfold Oper.wp
    rw [hrun]
    refine (callB_rel hr (allEq_of (kr hk) hS) hok.1 hok.2.1 hok.2.2.1 hkk hok.2.2.2.1 hok.2.2.2.2.1 (VArgs.args hr (kl hk) hx) hok.2.2.2.2.2 hs).mono ?_
    rintro e w' ⟨v, β', ν', rfl, hr', hv⟩
    show Rel P X (ovr t (d :: keysL S1) _) (a.put o.dst v) w'
    rw [ovr_L, hd]
    exact ⟨β', ν', hr'.put (by rw [hX]; exact blt_lt hn) (blt_lt h4) rfl ⟨v, rfl, hv⟩⟩

theorem r_callBC {x : Operand} {F : FuncId} {xs : List Operand} {T : Array TypeId} {ys us : List AV} {S0 S1 : List (Nat × AV)} {r : D} {d : Nat} (ho : o.op = .call { callee := .value x, args := xs.toArray, argTypes := T }) (hf : IsFn P F) (hs : SpecB P F (ys ++ us) S0 r S1) (hc : Sees (ev s x) (.clo F (chainL us))) (hx : VArgs s xs ys) (hS : allEq s S0)
    (hkk : keysL S1 = keysL S0) (hok : okB (ys ++ us) S0 S1 = true) (hd : o.dst = some d) (hg : o.guard = none) (hn : Nat.blt d n = true) (h4 : Nat.blt d 10000 = true) :
    LStep P n ops o (kxl xs ++ (kx x ++ keysL S0), d :: keysL S1) s (upd (updL s S1) d (.val r)) := by
  simp only [okB, Bool.and_eq_true] at hok
  refine ⟨fun k hk => ?_, fun X t a w hX hk hr Q => ?_⟩
  · simp only [List.mem_cons, not_or] at hk
    rw [upd_ne _ _ hk.1, updL_off hk.2]
  · obtain ⟨β, ν, hr⟩ := hr
    obtain ⟨caps, e1, hcaps⟩ := hr.sees (kl (kr hk)) hc
    simp only [List.cons.injEq, and_true] at e1
    have hrun : (execOp a.eval o).run P w = .ok (.enter F (xs.map a.eval ++ caps.toList).toArray) w := by
      simp [execOp, ho, resolve, e1, Deferred.ofValue, invoke, run_callFunc hf]
    unfold opWp
    rw [if_pos (by simp [Region.wanted, hg])]
    left
    unfold Oper.wp
    rw [hrun]
    refine (callB_rel hr (allEq_of (kr (kr hk)) hS) hok.1 hok.2.1 hok.2.2.1 hkk hok.2.2.2.1 hok.2.2.2.2.1 (ArgsV_app (VArgs.args hr (kl hk) hx) (ArgsV_chain hcaps)) hok.2.2.2.2.2 hs).mono ?_
    rintro e w' ⟨v, β', ν', rfl, hr', hv⟩
    show Rel P X (ovr t (d :: keysL S1) _) (a.put o.dst v) w'
    rw [ovr_L, hd]
    exact ⟨β', ν', hr'.put (by rw [hX]; exact blt_lt hn) (blt_lt h4) rfl ⟨v, rfl, hv⟩⟩
end

/-! ### Results beside objects -/

theorem resB_none {fn : Func} {s : St} (hf : fn.results = #[]) : ResB P fn s (.tup .nil) := by
  intro X a w β ν hr
  refine ⟨.tuple #[], ?_, rfl, #[], rfl, rfl⟩
  rw [results_eq, hf]
  simp

theorem resB_tmp {fn : Func} {s : St} {t : Nat} {d : D} (hf : fn.results = #[.tmp t]) (ht : Nat.blt t 10000 = true) (h : Sees (s t) (.val d)) : ResB P fn s d := by
  intro X a w β ν hr
  obtain ⟨v, e, hv⟩ := h _ _ _ _ _ _ _ (hr.slot t (blt_lt ht))
  simp only [List.cons.injEq, and_true] at e
  have h1 : (runRes a.tmps (.tmp t)).run P w = .ok v w := by simp only [runRes, e]; rfl
  refine ⟨v, ?_, hv⟩
  rw [results_eq, hf]
  simp [h1]

theorem resB_eq {fn : Func} {s : St} {r r' : D} (h : ResB P fn s r) (e : r = r') : ResB P fn s r' := e ▸ h
theorem endsB_ret {fn : Func} {S0 S1 : List (Nat × AV)} {s : St} {r : D} (h : ResB P fn s r) (h1 : allEq s (withA S0 S1)) (h2 : closedL (withA S0 S1) = true) : EndsB P fn S0 r S1 .ret s := ⟨.inl rfl, h, h1, h2⟩
theorem endsB_end {fn : Func} {S0 S1 : List (Nat × AV)} {s : St} {r : D} (h : ResB P fn s r) (h1 : allEq s (withA S0 S1)) (h2 : closedL (withA S0 S1) = true) : EndsB P fn S0 r S1 .normal s := ⟨.inr rfl, h, h1, h2⟩

/-- The nil slice in a slot, as data. -/
theorem le_empty {s : St} {k : Nat} (sz : Nat) {α : Type} (f : α → D) (z : α) (hk4 : Nat.blt k 10000 = true) (hk : s k = .emp) : Le P s (upd s k (.val (.list sz f z []))) := by
  rintro X a w ⟨β, ν, hr⟩
  refine ⟨β, ν, hr.slotAs (blt_lt hk4) rfl ?_⟩
  have hs := hr.slot k (blt_lt hk4)
  rw [hk] at hs
  exact Sees.emp rfl sz f z _ _ _ _ _ _ _ hs
end
end Go.Um
