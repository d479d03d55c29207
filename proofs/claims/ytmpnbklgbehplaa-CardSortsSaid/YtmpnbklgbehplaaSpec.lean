/- Weakening of abstract states, contracts of functions, results. No condition. -/
import Derived.Test.YtmpnbklgbehplaaStep
namespace Go.Um
open Go Go.RowKit

def allEq (s : St) : List (Nat × AV) → Prop
  | [] => True
  | (k, x) :: l => s k = x ∧ allEq s l

theorem allEq_mem {s : St} : ∀ {l : List (Nat × AV)}, allEq s l → ∀ p ∈ l, s p.1 = p.2
  | [], _, p, hp => by cases hp
  | (k, x) :: l, h, p, hp => by
    rcases List.mem_cons.1 hp with rfl | hp
    · exact h.1
    · exact allEq_mem h.2 p hp

theorem ofL_cases {s : St} : ∀ {l : List (Nat × AV)}, allEq s l → ∀ k, (ofL l k = s k) ∨ (ofL l k = .any ∧ ∀ p ∈ l, p.1 ≠ k)
  | [], _, k => .inr ⟨rfl, fun p hp => by cases hp⟩
  | (j, x) :: l, h, k => by
    simp only [ofL]
    cases hb : Nat.beq k j
    · simp only [cond_false]
      rcases ofL_cases h.2 k with h' | ⟨h', h''⟩
      · exact .inl h'
      · refine .inr ⟨h', fun p hp => ?_⟩
        rcases List.mem_cons.1 hp with rfl | hp
        · rintro rfl; simp at hb
        · exact h'' p hp
    · have := Nat.eq_of_beq_eq_true hb
      subst this
      exact .inl (by simp only [cond_true]; exact h.1.symm)

/-- Every object that is named is listed. -/
def closedL (l : List (Nat × AV)) : Bool := l.all fun p => (ment p.2).all fun o => l.any fun q => Nat.beq q.1 o

theorem RelB.ofL {P : Program} {s : St} {l : List (Nat × AV)} (h : allEq s l) (hc : closedL l = true) {X : Cx} {a : Act} {w : World} {β : Nat → Option Nat} {ν : Nat → Value} (hr : RelB P X s a w β ν) : RelB P X (Um.ofL l) a w β ν := by
  have hkey : ∀ k x, Um.ofL l k = x → x ≠ .any → ∀ o ∈ ment x, Um.ofL l o = s o := by
    intro k x hx hne o ho
    have hin : ∃ p ∈ l, p.2 = x := by
      clear h hc
      induction l with
      | nil => simp [Um.ofL] at hx; exact absurd hx.symm hne
      | cons p l ih =>
        obtain ⟨j, y⟩ := p
        simp only [Um.ofL] at hx
        cases hb : Nat.beq k j
        · rw [hb] at hx
          obtain ⟨q, hq, e⟩ := ih hx
          exact ⟨q, List.mem_cons_of_mem _ hq, e⟩
        · rw [hb] at hx
          exact ⟨(j, y), List.mem_cons_self .., hx⟩
    obtain ⟨p, hp, e⟩ := hin
    simp only [closedL, List.all_eq_true, List.any_eq_true] at hc
    obtain ⟨q, hq, hqe⟩ := hc p hp o (by rw [e]; exact ho)
    have := Nat.eq_of_beq_eq_true hqe
    rcases ofL_cases h o with h' | ⟨_, h'⟩
    · exact h'
    · exact absurd this (h' q hq)
  have hlive : ∀ o, live (Um.ofL l o) = true → Um.ofL l o = s o := by
    intro o hl
    rcases ofL_cases h o with h' | ⟨h', _⟩
    · exact h'
    · rw [h'] at hl; cases hl
  have hok : ∀ b, okAt X s β w b → okAt X (Um.ofL l) β w b ∧ w.heap[b]? = w.heap[b]? := by
    intro b hb
    refine ⟨⟨hb.1, hb.2.1, fun o hl => hb.2.2 o (by rw [← hlive o hl]; exact hl)⟩, rfl⟩
  have hvr : ∀ x vs, (∀ o ∈ ment x, Um.ofL l o = s o) → VR P (okAt X s β w) w s β ν x vs → VR P (okAt X (Um.ofL l) β w) w (Um.ofL l) β ν x vs := by
    intro x vs hm hv
    refine VR_mono' hok (Nat.le_refl _) x (fun o ho k hk => ?_) hv
    have := hm o ho
    exact ⟨k, by rw [this]; exact hk, Nat.le_refl _, fun _ hl => ⟨by rw [← this]; exact hl, rfl, rfl⟩⟩
  exact {
    os := hr.os, tape := hr.tape, output := hr.output, size := hr.size, frame := hr.frame, tmps := hr.tmps, defers := hr.defers
    own := fun o b hl hb => hr.own o b (by rw [← hlive o hl]; exact hl) hb
    inj := fun o o' b hl hl' => hr.inj o o' b (by rw [← hlive o hl]; exact hl) (by rw [← hlive o' hl']; exact hl')
    obj := fun o => by
      cases hl : live (Um.ofL l o) with
      | false => exact OR_dead hl
      | true =>
        have e := hlive o hl
        have ho := hr.obj o
        rw [← e] at ho
        generalize hx : Um.ofL l o = x at ho hl ⊢
        cases x with
        | box u c =>
          obtain ⟨b, cs, ty, h1, h2, h3, h4⟩ := ho
          exact ⟨b, cs, ty, h1, h2, h3, hvr c _ (fun o' ho' => hkey o _ hx (by simp) o' (by simpa [ment] using ho')) h4⟩
        | arr u e sz by_ f z xs =>
          obtain ⟨cells, h1, h2, h3, h4, h4', h5, h6⟩ := ho
          exact ⟨cells, h1, h2, h3, h4, h4', h5, fun i hi => R_mono _ hok (Nat.le_refl _) (h6 i hi)⟩
        | mp u kv vv m => exact ho
        | _ => trivial
    slot := fun t ht => by
      have hs := hr.slot t ht
      rcases ofL_cases h t with h' | ⟨h', _⟩
      · by_cases hany : Um.ofL l t = .any
        · rw [hany]; exact ⟨_, rfl⟩
        · rw [← h'] at hs
          exact hvr _ _ (hkey t _ rfl hany) hs
      · rw [h']; exact ⟨_, rfl⟩
    keys := fun t ht => by
      rcases ofL_cases h t with h' | ⟨h', _⟩
      · rw [h']; exact hr.keys t ht
      · rw [h']; rfl
    anch := fun hv => by
      rcases ofL_cases h 29999 with h' | ⟨h', _⟩
      · by_cases hany : Um.ofL l 29999 = .any
        · rw [hany]; exact ⟨_, rfl⟩
        · have hs := hr.anch (by rw [← h']; exact hv)
          rw [← h'] at hs
          exact hvr _ _ (hkey 29999 _ rfl hany) hs
      · rw [h']; exact ⟨_, rfl⟩ }

theorem le_ofL {P : Program} {s : St} {l : List (Nat × AV)} (h : allEq s l) (hc : closedL l = true) : Le P s (ofL l) := fun _ _ _ ⟨β, ν, hr⟩ => ⟨β, ν, hr.ofL h hc⟩

theorem Le.refl {P : Program} (s : St) : Le P s s := fun _ _ _ h => h
theorem Le.trans {P : Program} {s s' s'' : St} (h : Le P s s') (h' : Le P s' s'') : Le P s s'' := fun X a w hr => h' X a w (h X a w hr)

/-! ### Contracts -/

/-- An argument: no objects. -/
def ARel (P : Program) (ok : Nat → Prop) (w : World) (x : AV) (v : Value) : Prop := VR P ok w (fun _ => .any) (fun _ => none) (fun _ => undef) x [v]

def ArgsR (P : Program) (ok : Nat → Prop) (w : World) : List AV → List Value → Prop
  | [], vs => vs = []
  | x :: xs, vs => ∃ v vs', vs = v :: vs' ∧ ARel P ok w x v ∧ ArgsR P ok w xs vs'

/-- What a call comes to: a value that reads as r, in memory of the arguments or in new memory; whatever was there is as it was. -/
def RetP (P : Program) (r : D) (ok : Nat → Prop) (w : World) (e : Ending) (w' : World) : Prop :=
  ∃ v, e = .returned v ∧ RV P r (fun b => ok b ∨ (w.heap.size ≤ b ∧ b < w'.heap.size)) w' v ∧ Below w.heap.size w w'

/-- THE CONTRACT OF A PURE FUNCTION. -/
def Spec (P : Program) (f : FuncId) (args : List AV) (r : D) : Prop :=
  ∀ (w : World) (ok : Nat → Prop) (vs : List Value), (∀ b, ok b → b < w.heap.size) → ArgsR P ok w args vs → Calls P f vs.toArray w (RetP P r ok w)

def initS : List AV → St
  | [], _ => .any
  | x :: _, 0 => x
  | _ :: l, t + 1 => initS l t

/-- What the results of a function read as at its end. -/
def Res (P : Program) (fn : Func) (s : St) (r : D) : Prop :=
  ∀ (X : Cx) (a : Act) (w : World) (β : Nat → Option Nat) (ν : Nat → Value), (∀ b, ¬ X.bor b) → RelB P X s a w β ν →
    ∃ v, (results fn a.tmps).run P w = .ok v w ∧ RV P r (fun b => (X.ok0 b ∨ X.w0.heap.size ≤ b) ∧ b < w.heap.size) w v

def Ends (P : Program) (fn : Func) (r : D) (e : Exit) (s : St) : Prop := (e = .ret ∨ e = .normal) ∧ Res P fn s r

theorem initS_ver : ∀ {args : List AV} {P : Program} {ok : Nat → Prop} {w : World} {vs : List Value}, ArgsR P ok w args vs → ∀ t, ver (initS args t) = none
  | [], _, _, _, _, _, t => rfl
  | x :: xs, P, ok, w, vs, h, 0 => by
    obtain ⟨v, vs', rfl, h1, h2⟩ := h
    simp only [initS]
    unfold ARel at h1
    cases x <;> first | rfl | exact h1.elim
  | x :: xs, P, ok, w, vs, h, t + 1 => by
    obtain ⟨v, vs', rfl, h1, h2⟩ := h
    exact initS_ver h2 t

theorem ArgsR_len : ∀ {args : List AV} {P : Program} {ok : Nat → Prop} {w : World} {vs : List Value}, ArgsR P ok w args vs → vs.length = args.length
  | [], _, _, _, _, h => by simp only [ArgsR] at h; subst h; rfl
  | x :: xs, _, _, _, _, h => by obtain ⟨v, vs', rfl, _, h2⟩ := h; simp [ArgsR_len h2]

theorem ArgsR_get : ∀ {args : List AV} {P : Program} {ok : Nat → Prop} {w : World} {vs : List Value}, ArgsR P ok w args vs → ∀ t, ARel P ok w (initS args t) (vs.getD t undef)
  | [], _, _, _, _, h, t => ⟨_, rfl⟩
  | x :: xs, P, ok, w, vs, h, 0 => by obtain ⟨v, vs', rfl, h1, h2⟩ := h; exact h1
  | x :: xs, P, ok, w, vs, h, t + 1 => by obtain ⟨v, vs', rfl, h1, h2⟩ := h; exact ArgsR_get h2 t

theorem ARel_ment {P : Program} {ok : Nat → Prop} {w : World} : ∀ (x : AV) {vs : List Value}, VR P ok w (fun _ => .any) (fun _ => none) (fun _ => undef) x vs → ∀ (s : St) (β : Nat → Option Nat) (ν : Nat → Value), VR P ok w s β ν x vs := by
  intro x
  induction x with
  | ref o u off => intro vs h; obtain ⟨v, k, _, h1, _⟩ := h; cases h1
  | elt o u sz i => intro vs h; obtain ⟨v, k, _, h1, _⟩ := h; cases h1
  | row o u => intro vs h; obtain ⟨v, k, _, h1, _⟩ := h; cases h1
  | clo f c ih => intro vs h s β ν; obtain ⟨caps, e, h1⟩ := h; exact ⟨caps, e, ih h1 s β ν⟩
  | sv c ih => intro vs h s β ν; obtain ⟨caps, e, h0, h1⟩ := h; exact ⟨caps, e, h0, ih h1 s β ν⟩
  | ccons a b iha ihb => intro vs h s β ν; obtain ⟨v, vs', e, h1, h2⟩ := h; exact ⟨v, vs', e, iha h1 s β ν, ihb h2 s β ν⟩
  | gv g x ih => intro vs h s β ν; obtain ⟨v, e, h1, h2⟩ := h; exact ⟨v, e, fun hg => ih (h1 hg) s β ν, h2⟩
  | _ => intro vs h s β ν; exact h

/-- The relation at a call's beginning. -/
theorem start_rel {P : Program} {fn : Func} {args : List AV} {n : Nat} (hn : fn.ntmps = n) (hl : args.length ≤ n) {w : World} {ok : Nat → Prop} {vs : List Value} (hok : ∀ b, ok b → b < w.heap.size) (hargs : ArgsR P ok w args vs) :
    ∃ X : Cx, X.n = n ∧ X.w0 = w ∧ X.ok0 = ok ∧ (∀ b, ¬ X.bor b) ∧ Rel P X (initS args) { tmps := vs.toArray ++ Array.replicate (fn.ntmps - vs.toArray.size) undef, defers := [] } w := by
  have hlen := ArgsR_len hargs
  let X : Cx := { n := n, w0 := w, ok0 := ok, bor := fun _ => False, av := vs.getD 29999 undef, hok := fun b hb => ⟨hok b hb, id⟩ }
  have hg : ∀ t, (vs.toArray ++ Array.replicate (fn.ntmps - vs.toArray.size) undef).getD t undef = vs.getD t undef := by
    intro t
    simp only [Array.getD_eq_getD_getElem?, List.getD_eq_getElem?_getD, Array.getElem?_append, List.getElem?_toArray, List.size_toArray]
    split
    · rfl
    · rename_i hlt
      rw [List.getElem?_eq_none (by omega : vs.length ≤ t)]
      simp only [Array.getElem?_replicate]
      split <;> rfl
  have hr : Rel P X (initS args) { tmps := vs.toArray ++ Array.replicate (fn.ntmps - vs.toArray.size) undef, defers := [] } w := by
    refine ⟨fun _ => none, fun _ => undef, ?_⟩
    have hd : ∀ o, live (initS args o) = false := fun o => live_ver (initS_ver hargs o)
    exact {
      os := rfl, tape := rfl, output := rfl, size := Nat.le_refl _, frame := fun _ _ _ => rfl
      own := fun o b hl _ => by rw [hd o] at hl; cases hl
      inj := fun o o' b hl _ _ _ => by rw [hd o] at hl; cases hl
      obj := fun o => OR_dead (hd o)
      slot := fun t _ => by
        show VR P _ w _ _ _ _ [(vs.toArray ++ Array.replicate (fn.ntmps - vs.toArray.size) undef).getD t undef]
        rw [hg t]
        have := ARel_ment _ (ArgsR_get hargs t) (initS args) (fun _ => none) (fun _ => undef)
        exact VR_mono (fun b hb => ⟨⟨.inl hb, hok b hb, fun o hl => by rw [hd o] at hl; cases hl⟩, rfl⟩) (Nat.le_refl _) (Goes.refl _ _ _) _ this
      keys := fun t _ => initS_ver hargs t
      tmps := by simp [X, hn, hlen]; omega
      defers := rfl
      anch := fun _ => VR_mono (fun b hb => ⟨⟨.inl hb, hok b hb, fun o hl => by rw [hd o] at hl; cases hl⟩, rfl⟩) (Nat.le_refl _) (Goes.refl _ _ _) _ (ARel_ment _ (ArgsR_get hargs 29999) (initS args) (fun _ => none) (fun _ => undef)) }
  exact ⟨X, rfl, rfl, rfl, fun _ => id, hr⟩

theorem spec_of {P : Program} {f : FuncId} {fn : Func} {c : Code} {args : List AV} {r : D} (hf : P.funcs[f]? = some fn) (hb : fn.body = some c) {n : Nat} (hn : fn.ntmps = n) (hl : args.length ≤ n)
    (h : AW P n c (initS args) (Ends P fn r)) : Spec P f args r := by
  intro w ok vs hok hargs
  refine calls_of_wp hf hb ?_
  have hlen := ArgsR_len hargs
  let X : Cx := { n := n, w0 := w, ok0 := ok, bor := fun _ => False, av := vs.getD 29999 undef, hok := fun b hb => ⟨hok b hb, id⟩ }
  have hg : ∀ t, (vs.toArray ++ Array.replicate (fn.ntmps - vs.toArray.size) undef).getD t undef = vs.getD t undef := by
    intro t
    simp only [Array.getD_eq_getD_getElem?, List.getD_eq_getElem?_getD, Array.getElem?_append, List.getElem?_toArray, List.size_toArray]
    split
    · rfl
    · rename_i hlt
      rw [List.getElem?_eq_none (by omega : vs.length ≤ t)]
      simp only [Array.getElem?_replicate]
      split <;> rfl
  have hr : Rel P X (initS args) { tmps := vs.toArray ++ Array.replicate (fn.ntmps - vs.toArray.size) undef, defers := [] } w := by
    refine ⟨fun _ => none, fun _ => undef, ?_⟩
    have hd : ∀ o, live (initS args o) = false := fun o => live_ver (initS_ver hargs o)
    exact {
      os := rfl, tape := rfl, output := rfl, size := Nat.le_refl _, frame := fun _ _ _ => rfl
      own := fun o b hl _ => by rw [hd o] at hl; cases hl
      inj := fun o o' b hl _ _ _ => by rw [hd o] at hl; cases hl
      obj := fun o => OR_dead (hd o)
      slot := fun t _ => by
        show VR P _ w _ _ _ _ [(vs.toArray ++ Array.replicate (fn.ntmps - vs.toArray.size) undef).getD t undef]
        rw [hg t]
        have := ARel_ment _ (ArgsR_get hargs t) (initS args) (fun _ => none) (fun _ => undef)
        exact VR_mono (fun b hb => ⟨⟨.inl hb, hok b hb, fun o hl => by rw [hd o] at hl; cases hl⟩, rfl⟩) (Nat.le_refl _) (Goes.refl _ _ _) _ this
      keys := fun t _ => initS_ver hargs t
      tmps := by simp [X, hn, hlen]; omega
      defers := rfl
      anch := fun _ => VR_mono (fun b hb => ⟨⟨.inl hb, hok b hb, fun o hl => by rw [hd o] at hl; cases hl⟩, rfl⟩) (Nat.le_refl _) (Goes.refl _ _ _) _ (ARel_ment _ (ArgsR_get hargs 29999) (initS args) (fun _ => none) (fun _ => undef)) }
  refine wp_mono (h X _ w rfl hr) ?_
  rintro e a' w' ⟨s', ⟨he, hres⟩, β, ν, hr'⟩
  obtain ⟨v, hv1, hv2⟩ := hres X a' w' β ν (fun _ => id) hr'
  have hpost : a'.defers = [] ∧ ∃ v, (results fn a'.tmps).run P w' = .ok v w' ∧ RetP P r ok w (.returned v) w' :=
    ⟨hr'.defers, v, hv1, v, rfl, RV_mono (fun b hb => ⟨hb.1.elim .inl (fun h => .inr ⟨h, hb.2⟩), rfl⟩) (Nat.le_refl _) hv2, ⟨hr'.os, hr'.tape, hr'.output, hr'.size, fun k hk => hr'.frame k hk id⟩⟩
  rcases he with rfl | rfl
  · exact hpost
  · exact hpost

end Go.Um
