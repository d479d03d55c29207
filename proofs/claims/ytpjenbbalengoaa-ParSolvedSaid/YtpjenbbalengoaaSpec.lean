/- Weakening of abstract states, contracts of functions, results. No condition. -/
import Derived.Test.YtpjenbbalengoaaStep
namespace Go.Um
open Go Go.RowKit

def allEq (s : St) : List (Nat × AV) → Prop
  | [] => True
  | (k, x) :: l => s k = x ∧ allEq s l

theorem allEq_mem {s : St} : ∀ {l : List (Nat × AV)}, allEq s l → ∀ p ∈ l, s p.1 = p.2
  | [], _, p, hp => by cases hp
  | (k, x) :: l, h, p, hp => by
    rcases List.mem_cons.1 hp with rfl | hp
    · exact h.1
    · exact allEq_mem h.2 p hp

theorem ofL_cases {s : St} : ∀ {l : List (Nat × AV)}, allEq s l → ∀ k, (ofL l k = s k) ∨ (ofL l k = .any ∧ ∀ p ∈ l, p.1 ≠ k)
  | [], _, k => .inr ⟨rfl, fun p hp => by cases hp⟩
  | (j, x) :: l, h, k => by
    simp only [ofL]
    cases hb : Nat.beq k j
    · simp only [cond_false]
      rcases ofL_cases h.2 k with h' | ⟨h', h''⟩
      · exact .inl h'
      · refine .inr ⟨h', fun p hp => ?_⟩
        rcases List.mem_cons.1 hp with rfl | hp
        · rintro rfl; simp at hb
        · exact h'' p hp
    · have := Nat.eq_of_beq_eq_true hb
      subst this
      exact .inl (by simp only [cond_true]; exact h.1.symm)

/-- Every object that is named is listed. -/
def closedL (l : List (Nat × AV)) : Bool := l.all fun p => (ment p.2).all fun o => l.any fun q => Nat.beq q.1 o

theorem RelB.ofL {P : Program} {s : St} {l : List (Nat × AV)} (h : allEq s l) (hc : closedL l = true) {X : Cx} {a : Act} {w : World} {β : Nat → Option Nat} {ν : Nat → Value} (hr : RelB P X s a w β ν) : RelB P X (Um.ofL l) a w β ν := by
  have hkey : ∀ k x, Um.ofL l k = x → x ≠ .any → ∀ o ∈ ment x, Um.ofL l o = s o := by
    intro k x hx hne o ho
    have hin : ∃ p ∈ l, p.2 = x := by
      clear h hc
      induction l with
      | nil => simp [Um.ofL] at hx; exact absurd hx.symm hne
      | cons p l ih =>
        obtain ⟨j, y⟩ := p
        simp only [Um.ofL] at hx
        cases hb : Nat.beq k j
        · rw [hb] at hx
          obtain ⟨q, hq, e⟩ := ih hx
          exact ⟨q, List.mem_cons_of_mem _ hq, e⟩
        · rw [hb] at hx
          exact ⟨(j, y), List.mem_cons_self .., hx⟩
    obtain ⟨p, hp, e⟩ := hin
    simp only [closedL, List.all_eq_true, List.any_eq_true] at hc
    obtain ⟨q, hq, hqe⟩ := hc p hp o (by rw [e]; exact ho)
    have := Nat.eq_of_beq_eq_true hqe
    rcases ofL_cases h o with h' | ⟨_, h'⟩
    · exact h'
    · exact absurd this (h' q hq)
  have hlive : ∀ o, live (Um.ofL l o) = true → Um.ofL l o = s o := by
    intro o hl
    rcases ofL_cases h o with h' | ⟨h', _⟩
    · exact h'
    · rw [h'] at hl; cases hl
  have hok : ∀ b, okAt X s β w b → okAt X (Um.ofL l) β w b ∧ w.heap[b]? = w.heap[b]? := by
    intro b hb
    refine ⟨⟨hb.1, hb.2.1, fun o hl => hb.2.2 o (by rw [← hlive o hl]; exact hl)⟩, rfl⟩
  have hvr : ∀ x vs, (∀ o ∈ ment x, Um.ofL l o = s o) → VR P (okAt X s β w) w s β ν x vs → VR P (okAt X (Um.ofL l) β w) w (Um.ofL l) β ν x vs := by
    intro x vs hm hv
    refine VR_mono' hok (Nat.le_refl _) x (fun o ho k hk => ?_) hv
    have := hm o ho
    exact ⟨k, by rw [this]; exact hk, Nat.le_refl _, fun _ hl => ⟨by rw [← this]; exact hl, rfl, rfl⟩⟩
  exact {
    os := hr.os, tape := hr.tape, output := hr.output, drawn := hr.drawn, size := hr.size, frame := hr.frame, tmps := hr.tmps, defers := hr.defers
    kept := fun b o hb => ⟨(hok b (hr.kept b o hb).1).1, (hr.kept b o hb).2⟩
    own := fun o b hl hb => hr.own o b (by rw [← hlive o hl]; exact hl) hb
    inj := fun o o' b hl hl' => hr.inj o o' b (by rw [← hlive o hl]; exact hl) (by rw [← hlive o' hl']; exact hl')
    obj := fun o => by
      cases hl : live (Um.ofL l o) with
      | false => exact OR_dead hl
      | true =>
        have e := hlive o hl
        have ho := hr.obj o
        rw [← e] at ho
        generalize hx : Um.ofL l o = x at ho hl ⊢
        cases x with
        | box u c =>
          obtain ⟨b, cs, ty, h1, h2, h3, h4⟩ := ho
          exact ⟨b, cs, ty, h1, h2, h3, hvr c _ (fun o' ho' => hkey o _ hx (by simp) o' (by simpa [ment] using ho')) h4⟩
        | arr u e sz by_ f z xs =>
          obtain ⟨cells, h1, h2, h3, h4, h4', h5, h6⟩ := ho
          exact ⟨cells, h1, h2, h3, h4, h4', h5, fun i hi => R_mono _ hok (Nat.le_refl _) (h6 i hi)⟩
        | mp u kv vv m => exact ho
        | tl u e sz by_ f z xs =>
          obtain ⟨g, k, c, off, cells, h1, h2, h3, h4, h5, h6, h7, h8⟩ := ho
          exact ⟨g, k, c, off, cells, h1, h2, h3, h4, h5, h6, h7, fun i hi => R_mono _ hok (Nat.le_refl _) (h8 i hi)⟩
        | _ => trivial
    slot := fun t ht => by
      have hs := hr.slot t ht
      rcases ofL_cases h t with h' | ⟨h', _⟩
      · by_cases hany : Um.ofL l t = .any
        · rw [hany]; exact ⟨_, rfl⟩
        · rw [← h'] at hs
          exact hvr _ _ (hkey t _ rfl hany) hs
      · rw [h']; exact ⟨_, rfl⟩
    keys := fun t ht => by
      rcases ofL_cases h t with h' | ⟨h', _⟩
      · rw [h']; exact hr.keys t ht
      · rw [h']; rfl
    anch := fun hv => by
      rcases ofL_cases h 29999 with h' | ⟨h', _⟩
      · by_cases hany : Um.ofL l 29999 = .any
        · rw [hany]; exact ⟨_, rfl⟩
        · have hs := hr.anch (by rw [← h']; exact hv)
          rw [← h'] at hs
          exact hvr _ _ (hkey 29999 _ rfl hany) hs
      · rw [h']; exact ⟨_, rfl⟩ }

theorem le_ofL {P : Program} {s : St} {l : List (Nat × AV)} (h : allEq s l) (hc : closedL l = true) : Le P s (ofL l) := fun _ _ _ ⟨β, ν, hr⟩ => ⟨β, ν, hr.ofL h hc⟩

theorem Le.refl {P : Program} (s : St) : Le P s s := fun _ _ _ h => h
theorem Le.trans {P : Program} {s s' s'' : St} (h : Le P s s') (h' : Le P s' s'') : Le P s s'' := fun X a w hr => h' X a w (h X a w hr)

/-! ### Contracts -/

/-- An argument: no objects. -/
def ARel (P : Program) (ok : Nat → Prop) (w : World) (x : AV) (v : Value) : Prop := VR P ok w (fun _ => .any) (fun _ => none) (fun _ => undef) x [v]

def ArgsR (P : Program) (ok : Nat → Prop) (w : World) : List AV → List Value → Prop
  | [], vs => vs = []
  | x :: xs, vs => ∃ v vs', vs = v :: vs' ∧ ARel P ok w x v ∧ ArgsR P ok w xs vs'

/-- What a call comes to: a value that reads as r, in memory of the arguments or in new memory; whatever was there is as it was. -/
def RetP (P : Program) (r : D) (ok : Nat → Prop) (w : World) (e : Ending) (w' : World) : Prop :=
  ∃ v, e = .returned v ∧ RV P r (fun b => ok b ∨ (w.heap.size ≤ b ∧ b < w'.heap.size)) w' v ∧ Belw w.heap.size w w'

/-- THE CONTRACT OF A PURE FUNCTION. -/
def Spec (P : Program) (f : FuncId) (args : List AV) (r : D) : Prop :=
  ∀ (w : World) (ok : Nat → Prop) (vs : List Value), (∀ b, ok b → b < w.heap.size) → ArgsR P ok w args vs → Calls P f vs.toArray w (RetP P r ok w)

def initS : List AV → St
  | [], _ => .any
  | x :: _, 0 => x
  | _ :: l, t + 1 => initS l t

/-- What the results of a function read as at its end. -/
def Res (P : Program) (fn : Func) (s : St) (r : D) : Prop :=
  ∀ (X : Cx) (a : Act) (w : World) (β : Nat → Option Nat) (ν : Nat → Value), (∀ b, ¬ X.bor b) → RelB P X s a w β ν →
    ∃ v, (results fn a.tmps).run P w = .ok v w ∧ RV P r (fun b => (X.ok0 b ∨ X.w0.heap.size ≤ b) ∧ b < w.heap.size) w v

def Ends (P : Program) (fn : Func) (r : D) (e : Exit) (s : St) : Prop := (e = .ret ∨ e = .normal) ∧ Res P fn s r

theorem initS_ver : ∀ {args : List AV} {P : Program} {ok : Nat → Prop} {w : World} {vs : List Value}, ArgsR P ok w args vs → ∀ t, ver (initS args t) = none
  | [], _, _, _, _, _, t => rfl
  | x :: xs, P, ok, w, vs, h, 0 => by
    obtain ⟨v, vs', rfl, h1, h2⟩ := h
    simp only [initS]
    unfold ARel at h1
    cases x <;> first | rfl | exact h1.elim
  | x :: xs, P, ok, w, vs, h, t + 1 => by
    obtain ⟨v, vs', rfl, h1, h2⟩ := h
    exact initS_ver h2 t

theorem ArgsR_len : ∀ {args : List AV} {P : Program} {ok : Nat → Prop} {w : World} {vs : List Value}, ArgsR P ok w args vs → vs.length = args.length
  | [], _, _, _, _, h => by simp only [ArgsR] at h; subst h; rfl
  | x :: xs, _, _, _, _, h => by obtain ⟨v, vs', rfl, _, h2⟩ := h; simp [ArgsR_len h2]

theorem ArgsR_get : ∀ {args : List AV} {P : Program} {ok : Nat → Prop} {w : World} {vs : List Value}, ArgsR P ok w args vs → ∀ t, ARel P ok w (initS args t) (vs.getD t undef)
  | [], _, _, _, _, h, t => ⟨_, rfl⟩
  | x :: xs, P, ok, w, vs, h, 0 => by obtain ⟨v, vs', rfl, h1, h2⟩ := h; exact h1
  | x :: xs, P, ok, w, vs, h, t + 1 => by obtain ⟨v, vs', rfl, h1, h2⟩ := h; exact ArgsR_get h2 t

theorem ARel_ment {P : Program} {ok : Nat → Prop} {w : World} : ∀ (x : AV) {vs : List Value}, VR P ok w (fun _ => .any) (fun _ => none) (fun _ => undef) x vs → ∀ (s : St) (β : Nat → Option Nat) (ν : Nat → Value), VR P ok w s β ν x vs := by
  intro x
  induction x with
  | ref o u off => intro vs h; obtain ⟨v, k, _, h1, _⟩ := h; cases h1
  | elt o u sz i => intro vs h; obtain ⟨v, k, _, h1, _⟩ := h; cases h1
  | sub o u sz i => intro vs h; obtain ⟨v, k, _, h1, _⟩ := h; cases h1
  | etl o u sz i => intro vs h; obtain ⟨v, k, _, h1, _⟩ := h; cases h1
  | bsl o u n => intro vs h; obtain ⟨v, k, _, h1, _⟩ := h; cases h1
  | row o u => intro vs h; obtain ⟨v, k, _, h1, _⟩ := h; cases h1
  | clo f c ih => intro vs h s β ν; obtain ⟨caps, e, h1⟩ := h; exact ⟨caps, e, ih h1 s β ν⟩
  | sv c ih => intro vs h s β ν; obtain ⟨caps, e, h0, h1⟩ := h; exact ⟨caps, e, h0, ih h1 s β ν⟩
  | ccons a b iha ihb => intro vs h s β ν; obtain ⟨v, vs', e, h1, h2⟩ := h; exact ⟨v, vs', e, iha h1 s β ν, ihb h2 s β ν⟩
  | both v x ih => intro vs h s β ν; exact ⟨h.1, ih h.2 s β ν⟩
  | gv g x ih => intro vs h s β ν; obtain ⟨v, e, h1, h2⟩ := h; exact ⟨v, e, fun hg => ih (h1 hg) s β ν, h2⟩
  | _ => intro vs h s β ν; exact h

/-- The relation at a call's beginning. -/
theorem start_rel {P : Program} {fn : Func} {args : List AV} {n : Nat} (hn : fn.ntmps = n) (hl : args.length ≤ n) {w : World} {ok : Nat → Prop} {vs : List Value} (hok : ∀ b, ok b → b < w.heap.size) (hargs : ArgsR P ok w args vs) :
    ∃ X : Cx, X.n = n ∧ X.w0 = w ∧ X.ok0 = ok ∧ (∀ b, ¬ X.bor b) ∧ X.defs = [] ∧ (∀ b, X.kp b = none) ∧ Rel P X (initS args) { tmps := vs.toArray ++ Array.replicate (fn.ntmps - vs.toArray.size) undef, defers := [] } w := by
  have hlen := ArgsR_len hargs
  let X : Cx := { n := n, w0 := w, ok0 := ok, bor := fun _ => False, av := vs.getD 29999 undef, kp := fun _ => none, defs := [], hok := fun b hb => ⟨hok b hb, id⟩ }
  have hg : ∀ t, (vs.toArray ++ Array.replicate (fn.ntmps - vs.toArray.size) undef).getD t undef = vs.getD t undef := by
    intro t
    simp only [Array.getD_eq_getD_getElem?, List.getD_eq_getElem?_getD, Array.getElem?_append, List.getElem?_toArray, List.size_toArray]
    split
    · rfl
    · rename_i hlt
      rw [List.getElem?_eq_none (by omega : vs.length ≤ t)]
      simp only [Array.getElem?_replicate]
      split <;> rfl
  have hr : Rel P X (initS args) { tmps := vs.toArray ++ Array.replicate (fn.ntmps - vs.toArray.size) undef, defers := [] } w := by
    refine ⟨fun _ => none, fun _ => undef, ?_⟩
    have hd : ∀ o, live (initS args o) = false := fun o => live_ver (initS_ver hargs o)
    exact {
      os := rfl, tape := rfl, output := rfl, drawn := Nat.le_refl _, kept := fun _ _ h => by (cases h), size := Nat.le_refl _, frame := fun _ _ _ => rfl
      own := fun o b hl _ => by rw [hd o] at hl; cases hl
      inj := fun o o' b hl _ _ _ => by rw [hd o] at hl; cases hl
      obj := fun o => OR_dead (hd o)
      slot := fun t _ => by
        show VR P _ w _ _ _ _ [(vs.toArray ++ Array.replicate (fn.ntmps - vs.toArray.size) undef).getD t undef]
        rw [hg t]
        have := ARel_ment _ (ArgsR_get hargs t) (initS args) (fun _ => none) (fun _ => undef)
        exact VR_mono (fun b hb => ⟨⟨.inl hb, hok b hb, fun o hl => by rw [hd o] at hl; cases hl⟩, rfl⟩) (Nat.le_refl _) (Goes.refl _ _ _) _ this
      keys := fun t _ => initS_ver hargs t
      tmps := by simp [X, hn, hlen]; omega
      defers := rfl
      anch := fun _ => VR_mono (fun b hb => ⟨⟨.inl hb, hok b hb, fun o hl => by rw [hd o] at hl; cases hl⟩, rfl⟩) (Nat.le_refl _) (Goes.refl _ _ _) _ (ARel_ment _ (ArgsR_get hargs 29999) (initS args) (fun _ => none) (fun _ => undef)) }
  exact ⟨X, rfl, rfl, rfl, fun _ => id, rfl, fun _ => rfl, hr⟩

/-! ### Marks -/

def shut (w : World) : List Nat → World
  | [] => w
  | D :: Ds => shut (w.putObj D (.deferred none)) Ds

theorem leaves_marks {P : Program} {fn : Func} {tmps : Array Value} {R : Ending → World → Prop} : ∀ (Ds : List Nat) (w : World), Ds.Nodup → (∀ D ∈ Ds, w.heap[D]? = some (.deferred (some []))) →
    (∃ v, (results fn tmps).run P (shut w Ds) = .ok v (shut w Ds) ∧ R (.returned v) (shut w Ds)) → LeavesInM (wd none) 0 P fn tmps R (Ds.map mk) .returning w
  | [], w, _, _, h => h
  | D :: Ds, w, hn, hD, h => by
    rw [List.nodup_cons] at hn
    refine ⟨nofun, .inl ⟨D, _, rfl, run_takeDeferred (hD D (List.mem_cons_self ..)), ?_⟩⟩
    refine leaves_marks Ds _ hn.2 (fun E hE => ?_) h
    have hne : E ≠ D := fun e => hn.1 (e ▸ hE)
    rw [World.putObj_heap_other hne]
    exact hD E (List.mem_cons_of_mem _ hE)

theorem RelB.shut1 {P : Program} {X : Cx} {s : St} {a : Act} {w : World} {β : Nat → Option Nat} {ν : Nat → Value} (hr : RelB P X s a w β ν) {D : Nat} {o o' : Obj} (hD : okAt X s β w D) (hc : w.heap[D]? = some o) (hcc : cellsB (some o) = false) (hn : X.w0.heap.size ≤ D ∨ X.bor D)
    (K : Nat → Option Obj) (hK : ∀ b o, K b = some o → (X.kp b = some o ∧ b ≠ D) ∨ (b = D ∧ o = o')) (ds : List Deferred) : RelB P { X with kp := K, defs := ds } s { a with defers := ds } (w.putObj D o') β ν := by
  have hs : w.heap.size ≤ (w.putObj D o').heap.size := by simp
  have hne : ∀ b, b ≠ D → (w.putObj D o').heap[b]? = w.heap[b]? := fun b h => World.putObj_heap_other h
  have hk : ∀ b, okAt X s β w b → okAt { X with kp := K, defs := ds } s β (w.putObj D o') b ∧ (cellsB w.heap[b]? = true → (w.putObj D o').heap[b]? = w.heap[b]?) := fun b hb =>
    ⟨⟨hb.1, Nat.lt_of_lt_of_le hb.2.1 hs, hb.2.2⟩, fun h => hne b (fun e => by rw [e, hc, hcc] at h; cases h)⟩
  have hvr : ∀ x vs, VR P (okAt X s β w) w s β ν x vs → VR P (okAt { X with kp := K, defs := ds } s β (w.putObj D o')) (w.putObj D o') s β ν x vs := fun x vs h => VR_monoC' hk hs x (fun o _ => Goes.refl s β ν o) h
  exact {
    os := hr.os, tape := hr.tape, output := hr.output, drawn := hr.drawn, size := Nat.le_trans hr.size hs
    frame := fun b hb hn' => (hne b (fun e => by subst e; exact hn.elim (fun h => absurd hb (Nat.not_lt.2 h)) hn')).trans (hr.frame b hb hn')
    own := fun o b hl hb => ⟨(hr.own o b hl hb).1, Nat.lt_of_lt_of_le (hr.own o b hl hb).2 hs⟩
    inj := hr.inj
    obj := fun o => by
      cases hl : live (s o) with
      | false => exact OR_dead hl
      | true => exact OR_monoC hk hs (Goes.refl s β ν) rfl rfl (fun b hb => hne b (fun e => by subst e; exact hD.2.2 o hl hb)) _ (hr.obj o)
    slot := fun t ht => hvr _ _ (hr.slot t ht)
    keys := hr.keys, tmps := hr.tmps, defers := rfl
    kept := fun b o hb => by
      rcases hK b o hb with ⟨h1, h2⟩ | ⟨rfl, rfl⟩
      · exact ⟨(hk b (hr.kept b o h1).1).1, (hne b h2).trans (hr.kept b o h1).2⟩
      · exact ⟨(hk b hD).1, World.putObj_heap_same hD.2.1⟩
    anch := fun hv => hvr _ _ (hr.anch hv) }

theorem RelB.shuts {P : Program} {s : St} {β : Nat → Option Nat} {ν : Nat → Value} (K : Nat → Option Obj) : ∀ (Ds : List Nat) {X : Cx} {a : Act} {w : World}, RelB P X s a w β ν → Ds.Nodup →
    (∀ D ∈ Ds, okAt X s β w D ∧ w.heap[D]? = some (.deferred (some [])) ∧ X.w0.heap.size ≤ D) → (∀ b o, K b = some o → X.kp b = some o ∧ b ∉ Ds) →
    RelB P { X with kp := K, defs := [] } s { a with defers := [] } (shut w Ds) β ν
  | [], X, a, w, hr, _, _, hK => {
      os := hr.os, tape := hr.tape, output := hr.output, drawn := hr.drawn, size := hr.size, frame := hr.frame, own := hr.own, inj := hr.inj, obj := hr.obj, slot := hr.slot, keys := hr.keys, tmps := hr.tmps, defers := rfl
      kept := fun b o hb => hr.kept b o (hK b o hb).1
      anch := hr.anch }
  | D :: Ds, X, a, w, hr, hn, hD, hK => by
    rw [List.nodup_cons] at hn
    obtain ⟨h1, h2, h3⟩ := hD D (List.mem_cons_self ..)
    have h := hr.shut1 (o' := .deferred none) h1 h2 rfl (.inl h3) K (fun b o hb => .inl ⟨(hK b o hb).1, fun e => (hK b o hb).2 (e ▸ List.mem_cons_self ..)⟩) []
    have hD2 : ∀ E ∈ Ds, okAt { X with kp := K, defs := [] } s β (w.putObj D (.deferred none)) E ∧ (w.putObj D (.deferred none)).heap[E]? = some (.deferred (some [])) ∧ X.w0.heap.size ≤ E := by
      intro E hE
      obtain ⟨g1, g2, g3⟩ := hD E (List.mem_cons_of_mem _ hE)
      refine ⟨⟨g1.1, Nat.lt_of_lt_of_le g1.2.1 (by simp), g1.2.2⟩, ?_, g3⟩
      have hne : E ≠ D := fun e => hn.1 (e ▸ hE)
      rw [World.putObj_heap_other hne]
      exact g2
    exact RelB.shuts K Ds (X := { X with kp := K, defs := [] }) (a := { a with defers := [] }) h hn.2 hD2 (fun b o hb => ⟨hb, fun h => (hK b o hb).2 (List.mem_cons_of_mem _ h)⟩)

/-- From a function's body to its contract. -/
theorem calls_of_aft {P : Program} {f : FuncId} {fn : Func} {c : Code} (hf : P.funcs[f]? = some fn) (hb : fn.body = some c) {args : Array Value} {X : Cx} (hd : X.defs = []) {Q : Exit → St → Prop} (hQ : ∀ e s, Q e s → e = .ret ∨ e = .normal) {R : Ending → World → Prop}
    (h : c.wpIn (wd none) 0 P (Aft P X Q) { tmps := args ++ Array.replicate (fn.ntmps - args.size) undef, defers := [] } X.w0)
    (hR : ∀ e s X' a w β ν, Q e s → X'.n = X.n → X'.w0 = X.w0 → X'.ok0 = X.ok0 → X'.bor = X.bor → X'.av = X.av → X'.kp = X.kp → RelB P X' s a w β ν → ∃ v, (results fn a.tmps).run P w = .ok v w ∧ R (.returned v) w) : Calls P f args X.w0 R := by
  refine (callsIn_wide (n := 0)).1 (callsIn_of_wp_marks (F := Fence.wide) hf hb trivial (wpIn_mono h ?_))
  rintro e a' w' ⟨s', X', hx, hq, β, ν, hr⟩
  obtain ⟨Ds, h1, h2, h3⟩ := hx.defs
  rw [hd, List.append_nil] at h1
  have hDs : ∀ D ∈ Ds, okAt X' s' β w' D ∧ w'.heap[D]? = some (.deferred (some [])) ∧ X'.w0.heap.size ≤ D := fun D hD => ⟨(hr.kept D _ (h3 D hD).2.1).1, (hr.kept D _ (h3 D hD).2.1).2, by rw [hx.w0]; exact (h3 D hD).2.2⟩
  have hs := hr.shuts X.kp Ds h2 hDs (fun b o hb => ⟨hx.kp b o hb, fun hm => by rw [(h3 b hm).1] at hb; cases hb⟩)
  have hres := hR e s' { X' with kp := X.kp, defs := [] } { a' with defers := [] } (shut w' Ds) β ν hq hx.n hx.w0 hx.ok0 hx.bor hx.av rfl hs
  have hfin : LeavesInM Fence.wide 0 P fn a'.tmps R a'.defers .returning w' := by
    rw [hr.defers, h1]
    exact leaves_marks Ds w' h2 (fun D hD => (hDs D hD).2.1) hres
  rcases hQ e s' hq with rfl | rfl
  · exact hfin
  · exact hfin

theorem spec_of {P : Program} {f : FuncId} {fn : Func} {c : Code} {args : List AV} {r : D} (hf : P.funcs[f]? = some fn) (hb : fn.body = some c) {n : Nat} (hn : fn.ntmps = n) (hl : args.length ≤ n)
    (h : AW P ⟨n, true⟩ c (initS args) (Ends P fn r)) : Spec P f args r := by
  intro w ok vs hok hargs
  obtain ⟨X, hXn, rfl, rfl, hXb, hXd, hXk, hr⟩ := start_rel (fn := fn) hn hl hok hargs
  refine calls_of_aft hf hb hXd (fun e s h => h.1) (h none X _ _ ⟨hXn, fun _ => rfl⟩ hr) ?_
  rintro e s X' a' w' β ν ⟨he, hres⟩ x1 x2 x3 x4 x5 x6 hr'
  obtain ⟨v, hv1, hv2⟩ := hres X' a' w' β ν (fun b => by rw [x4]; exact hXb b) hr'
  rw [x2, x3] at hv2
  refine ⟨v, hv1, v, rfl, RV_mono (fun b hb => ⟨hb.1.elim .inl (fun h => .inr ⟨h, hb.2⟩), rfl⟩) (Nat.le_refl _) hv2, ⟨⟨?_, ?_, ?_, ?_, ?_⟩, ?_⟩⟩
  · rw [← x2]; exact hr'.os
  · rw [← x2]; exact hr'.tape
  · rw [← x2]; exact hr'.output
  · rw [← x2]; exact hr'.size
  · intro k hk; rw [← x2] at hk ⊢; exact hr'.frame k hk (by rw [x4]; exact hXb k)
  · rw [← x2]; exact hr'.drawn

end Go.Um
