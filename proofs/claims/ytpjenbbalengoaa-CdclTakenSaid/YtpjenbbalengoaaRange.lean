/- A loop over a function: the iterator's contract, and the rule for the loop. No condition. -/
import Derived.Test.YtpjenbbalengoaaBB
namespace Go.Um
open Go Go.RowKit

/-- THE CONTRACT OF AN ITERATOR: it goes through the numbers below N; where 'yes' is true it yields a value that reads as 'd k'. J: what is so ahead of number k; Jx: a round has said that no more is wanted. -/
def Iter (P : Program) (f : FuncId) (cs : List AV) (N : Nat) (yes : Nat → Bool) (d : Nat → D) : Prop :=
  ∀ (l : Nat) (W : World) (ok : Nat → Prop) (vs : List Value) (J Jx : Nat → World → Prop),
    (∀ b, ok b → b < W.heap.size) → ArgsR P ok W cs vs →
    (∀ k W1, J k W1 → W.heap.size ≤ W1.heap.size ∧ ∀ b, ok b → cellsB W.heap[b]? = true → W1.heap[b]? = W.heap[b]?) →
    (∀ k W1 W2, J k W1 → Belw W1.heap.size W1 W2 → J k W2) → (∀ k W1 W2, Jx k W1 → Belw W1.heap.size W1 W2 → Jx k W2) →
    (∀ k W1, k < N → yes k = false → J k W1 → J (k + 1) W1) →
    (∀ k W1 W2 v, k < N → yes k = true → J k W1 → Belw W1.heap.size W1 W2 → RV P (d k) (fun b => (ok b ∨ W1.heap.size ≤ b) ∧ b < W2.heap.size) W2 v →
      YieldAt (wd none) 0 P l #[v] W2 (fun e W' => ((e = .returned (.bool true) ∧ J (k + 1) W') ∨ (e = .returned (.bool false) ∧ Jx k W')) ∧ W2.heap.size ≤ W'.heap.size ∧ ∀ b, ok b ∨ (W1.heap.size ≤ b ∧ b < W2.heap.size) → cellsB W2.heap[b]? = true → W'.heap[b]? = W2.heap[b]?)) →
    J 0 W →
    CallsIn (wd none) 0 P f (#[.func (.yield l) #[] #[]] ++ vs.toArray) W (fun e W' => (∃ v, e = .returned v) ∧ (J N W' ∨ ∃ k, k < N ∧ yes k = true ∧ Jx k W'))

theorem Sees.both {x y : AV} {v : Value} (e : x = .both v y) : Sees x y := by
  subst e
  intro P ok w s β ν v' h
  exact h.2

/-- A new beginning: a state without objects. -/
theorem rel_new {P : Program} {ok : Nat → Prop} {w : World} (hok : ∀ b, ok b → b < w.heap.size) {n : Nat} {a : Act} (hn : a.tmps.size = n) (hd : a.defers = []) (l : List (Nat × AV)) (hl : ∀ q ∈ l, q.1 < 10000 ∧ ARel P ok w q.2 (a.tmps.getD q.1 undef)) :
    ∃ X : Cx, X.n = n ∧ X.w0 = w ∧ X.ok0 = ok ∧ (∀ b, ¬ X.bor b) ∧ X.defs = [] ∧ (∀ b, X.kp b = none) ∧ Rel P X (ofL l) a w := by
  let X : Cx := { n := n, w0 := w, ok0 := ok, bor := fun _ => False, av := undef, kp := fun _ => none, defs := [], hok := fun b hb => ⟨hok b hb, id⟩ }
  have hcase : ∀ t, ofL l t = .any ∨ (t < 10000 ∧ ARel P ok w (ofL l t) (a.tmps.getD t undef)) := fun t => by
    by_cases h : t ∈ keysL l
    · exact .inr (hl _ (ofL_mem h))
    · exact .inl (ofL_off h)
  have hver : ∀ t, ver (ofL l t) = none := fun t => by
    rcases hcase t with h | ⟨_, h⟩
    · rw [h]; rfl
    · exact VR_ver h
  have hd' : ∀ o, live (ofL l o) = false := fun o => live_ver (hver o)
  refine ⟨X, rfl, rfl, rfl, fun _ => id, rfl, fun _ => rfl, fun _ => none, fun _ => undef, ?_⟩
  exact {
    os := rfl, tape := rfl, output := rfl, drawn := Nat.le_refl _, size := Nat.le_refl _, frame := fun _ _ _ => rfl
    own := fun o b hl _ => by rw [hd' o] at hl; cases hl
    inj := fun o o' b hl _ _ _ => by rw [hd' o] at hl; cases hl
    obj := fun o => OR_dead (hd' o)
    slot := fun t _ => by
      rcases hcase t with h | ⟨_, h⟩
      · rw [h]; exact ⟨_, rfl⟩
      · exact VR_mono (fun b hb => ⟨⟨.inl hb, hok b hb, fun o hl => by rw [hd' o] at hl; cases hl⟩, rfl⟩) (Nat.le_refl _) (Goes.refl _ _ _) _ (ARel_ment _ h (ofL l) (fun _ => none) (fun _ => undef))
    keys := fun t _ => hver t
    tmps := hn, defers := hd, kept := fun _ _ h => by (cases h)
    anch := fun _ => by
      rcases hcase 29999 with h | ⟨h, _⟩
      · rw [h]; exact ⟨_, rfl⟩
      · omega }

theorem rel_both {P : Program} {X : Cx} {s : St} {a : Act} {w : World} (hr : Rel P X s a w) {t : Nat} (ht : Nat.blt t 10000 = true) {v : Value} {x : AV} (h : s t = .both v x) : a.tmps.getD t undef = v := by
  obtain ⟨β, ν, hr⟩ := hr
  have := hr.slot t (blt_lt ht)
  rw [h] at this
  have := this.1
  simpa using this

theorem val_one {P : Program} {ok : Nat → Prop} {w : World} {v : Value} : (∀ k i, RV P (.int k i) ok w v → v = .int k i) ∧ ∀ b, RV P (.bool b) ok w v → v = .bool b := by
  constructor
  · rintro k i ⟨h1, h2⟩
    simp only [R] at h2
    cases v <;> simp_all [Value.cells, vAgg, D.isAgg]
  · rintro b ⟨h1, h2⟩
    simp only [R] at h2
    cases v <;> simp_all [Value.cells, vAgg, D.isAgg]

theorem rel_int {P : Program} {X : Cx} {s : St} {a : Act} {w : World} (hr : Rel P X s a w) {t : Nat} (ht : Nat.blt t 10000 = true) {k : IntKind} {i : Int} (h : s t = .val (.int k i)) : a.tmps.getD t undef = .int k i := by
  obtain ⟨β, ν, hr⟩ := hr
  have := hr.slot t (blt_lt ht)
  rw [h] at this
  obtain ⟨v, e, hv⟩ := this
  simp only [List.cons.injEq, and_true] at e
  rw [e]
  exact val_one.1 k i hv

theorem rel_bool {P : Program} {X : Cx} {s : St} {a : Act} {w : World} (hr : Rel P X s a w) {t : Nat} (ht : Nat.blt t 10000 = true) {b : Bool} (h : s t = .val (.bool b)) : a.tmps.getD t undef = .bool b := by
  obtain ⟨β, ν, hr⟩ := hr
  have := hr.slot t (blt_lt ht)
  rw [h] at this
  obtain ⟨v, e, hv⟩ := this
  simp only [List.cons.injEq, and_true] at e
  rw [e]
  exact val_one.2 b hv

/-- What came since a context began. -/
theorem rel_belw {P : Program} {X X' : Cx} {s : St} {a : Act} {w : World} (hx : Ext X X') (hb : ∀ b, ¬ X.bor b) (hr : Rel P X' s a w) : Belw X.w0.heap.size X.w0 w := by
  obtain ⟨β, ν, hr⟩ := hr
  have h1 := hr.os; have h2 := hr.tape; have h3 := hr.output; have h4 := hr.drawn; have h5 := hr.size; have h6 := hr.frame
  rw [hx.w0] at h1 h2 h3 h4 h5 h6
  exact ⟨⟨h1, h2, h3, h5, fun k hk => h6 k hk (by rw [hx.bor]; exact hb k)⟩, h4⟩

/-- The first operations of a region. -/
theorem wpOps_derS {P : Program} {n : Nat} {ops : Array Oper} {r : Option Nat} {X : Cx} (hX : X.n = n) (hnd : noDef ops = true) {Q : Exit → Act → World → Prop} {rest : List Nat} {K : St → Prop} : ∀ (ol : List Oper) (i : Nat) {s : St} {a : Act} {w : World}, (∀ j o, ol[j]? = some o → ops[i + j]? = some o) →
    DerS P n ops ol s K → Rel P X s a w → (∀ s' a w, K s' → Rel P X s' a w → wpOpsIn (wd r) 0 P ops Q rest a w) → wpOpsIn (wd r) 0 P ops Q (List.range' i ol.length ++ rest) a w
  | [], i, s, a, w, _, hd, hr, hQ => hQ s a w hd hr
  | o :: l, i, s, a, w, hl, hd, hr, hQ => by
    obtain ⟨F, s1, hst, hder⟩ := hd
    have ho : ops[i]? = some o := by simpa using hl 0 o rfl
    rw [List.length_cons, List.range'_succ, List.cons_append, wpOpsIn_cons]
    have hst' := fun Q => hst.2 X s a w hX (fun _ _ => rfl) hr Q
    rw [ovr_self hst.1] at hst'
    refine wpOpIn_mono (fun a' w' hr' => ?_) (wpOpIn_of Q ho (noDef_at hnd ho) hst')
    exact wpOps_derS hX hnd l (i + 1) (fun j o' h => by have := hl (j + 1) o' (by simpa using h); rwa [show i + (j + 1) = i + 1 + j by omega] at this) hder hr' hQ

theorem wpOps_seg {P : Program} {n : Nat} {l : List Oper} {r : Option Nat} {X : Cx} (i c : Nat) (hc : Nat.ble (i + c) l.length = true) (K : St → Prop) (hX : X.n = n) (hnd : noDef l.toArray = true) {Q : Exit → Act → World → Prop} {rest : List Nat} {s : St} {a : Act} {w : World} (hr : Rel P X s a w)
    (hd : DerS P n l.toArray ((l.drop i).take c) s K) (hQ : ∀ s' a w, K s' → Rel P X s' a w → wpOpsIn (wd r) 0 P l.toArray Q rest a w) : wpOpsIn (wd r) 0 P l.toArray Q (List.range' i c ++ rest) a w := by
  have hlen : ((l.drop i).take c).length = c := by
    have := Nat.le_of_ble_eq_true hc
    simp
    omega
  have := wpOps_derS (r := r) hX hnd (Q := Q) (rest := rest) ((l.drop i).take c) i (s := s) (a := a) (w := w) (fun j o h => by
    rw [List.getElem?_take] at h
    split at h
    · simpa [List.getElem?_drop] using h
    · cases h) hd hr hQ
  rwa [hlen] at this

theorem region_wp {P : Program} {n id : Nat} {r : Option Nat} {ol : List Oper} {X : Cx} {s : St} {K : St → Prop} {Q : Exit → Act → World → Prop} {a : Act} {w : World} (hX : X.n = n) (hr : Rel P X s a w) (h : DerS P n ol.toArray ol s K) (hnd : noDef ol.toArray = true)
    (hQ : ∀ s' a w, K s' → Rel P X s' a w → Q .normal a w) : (Code.region id ol.toArray false).wpIn (wd r) 0 P Q a w := by
  obtain ⟨L, h⟩ := DerS.derL ol 0 h
  obtain ⟨h1, s', hk, hd⟩ := DerL.der ol 0 (by simp) h
  exact wp_plain hX hnd (by rw [h1, List.range_eq_range']; simp) hd hr (fun a w hr' => hQ s' a w hk hr')

theorem init_get (vs : List Value) (m t : Nat) : (vs.toArray ++ Array.replicate (m - vs.toArray.size) undef).getD t undef = vs.getD t undef := by
  simp only [Array.getD_eq_getD_getElem?, List.getD_eq_getElem?_getD, Array.getElem?_append, List.getElem?_toArray, List.size_toArray]
  split
  · rfl
  · rename_i hlt
    rw [List.getElem?_eq_none (by omega : vs.length ≤ t)]
    simp only [Array.getElem?_replicate]
    split <;> rfl

theorem init_size (vs : List Value) {m : Nat} (h : vs.length ≤ m) : (vs.toArray ++ Array.replicate (m - vs.toArray.size) undef).size = m := by
  simp
  omega

/-- A call of yield. -/
theorem wpOpIn_yield {P : Program} {ops : Array Oper} {r : Option Nat} {i : Nat} {o : Oper} {x y : Operand} {T : Array TypeId} {Q : Exit → Act → World → Prop} {K : Act → World → Prop} {a : Act} {w : World} {l : Nat} {v : Value} (ho : ops[i]? = some o) (hop : o.op = .call { callee := .value x, args := #[y], argTypes := T })
    (hw : Region.wanted o (yielded ops a.tmps) = true) (hx : a.eval x = .func (.yield l) #[] #[]) (hy : a.eval y = v) {R : Ending → World → Prop} (h : YieldAt (wd none) 0 P l #[v] w R) (hR : ∀ e w', R e w' → ∃ b, e = .returned (.bool b) ∧ K (a.put o.dst (.bool b)) w') : wpOpIn (wd r) 0 P ops Q i K a w := by
  unfold wpOpIn
  rw [ho]
  simp only [hw, if_true]
  refine ⟨fun _ _ => trivial, ?_⟩
  obtain ⟨fn, tmps, assign, body, hy1, hR1⟩ := h
  have hrun : (o.semAt (wd r).round a.eval).run P w = .ok (.round l fn tmps assign body) w := by
    rw [semAt_wd (by unfold notDefer; rw [hop])]
    simp [execOp, hop, resolve, hx, hy, Deferred.ofValue, invoke, hy1]
  rw [hrun]
  refine ⟨(fun h => by cases h), ?_⟩
  refine RoundIn.mono (F := wd r) ⟨trivial, hR1.2⟩ ?_
  intro e w' he
  obtain ⟨b, rfl, hk⟩ := hR e w' he
  exact hk

/-- How a round's body may be left. -/
def rndQ (I1 Ix : Prop) (S1 : List (Nat × AV)) (Sx : Option (Nat × List (Nat × AV))) : Exit → St → Prop
  | .normal, s => I1 ∧ allEq s S1
  | .exit id, s => match Sx with
    | some (id', S) => id' = id ∧ Ix ∧ allEq s S
    | none => False
  | _, _ => False

def asgQ (P : Program) (n : Nm) (body : Code) (Q : Exit → St → Prop) : Exit → St → Prop
  | .normal, s => AWs P n [body] s Q
  | _, _ => False

theorem ofL_app {l l' : List (Nat × AV)} {k : Nat} (h : k ∉ keysL l) : ofL (l ++ l') k = ofL l' k := by
  induction l with
  | nil => rfl
  | cons p l ih =>
    obtain ⟨j, x⟩ := p
    simp only [keysL, List.map_cons, List.mem_cons, not_or] at h
    have hb : Nat.beq k j = false := by
      cases hb : Nat.beq k j
      · rfl
      · exact absurd (Nat.eq_of_beq_eq_true hb) h.1
    simp only [List.cons_append, ofL, hb, cond_false]
    exact ih h.2

theorem ofL_app' {l l' : List (Nat × AV)} {k : Nat} (h : k ∈ keysL l) : ofL (l ++ l') k = ofL l k := by
  induction l with
  | nil => cases h
  | cons p l ih =>
    obtain ⟨j, x⟩ := p
    cases hb : Nat.beq k j
    · simp only [List.cons_append, ofL, hb, cond_false]
      simp only [keysL, List.map_cons, List.mem_cons] at h
      refine ih (h.resolve_left (fun e => ?_))
      subst e
      simp at hb
    · simp only [List.cons_append, ofL, hb, cond_true]

theorem allEq_self {s : St} : ∀ {l : List (Nat × AV)}, (∀ p ∈ l, s p.1 = p.2) → allEq s l
  | [], _ => trivial
  | p :: l, h => ⟨h p (List.mem_cons_self ..), allEq_self (fun q hq => h q (List.mem_cons_of_mem _ hq))⟩

theorem RelB.keep {P : Program} {X : Cx} {s : St} {a : Act} {w : World} {β : Nat → Option Nat} {ν : Nat → Value} (hr : RelB P X s a w β ν) (K : Nat → Option Obj) (hK : ∀ b o, K b = some o → okAt X s β w b ∧ w.heap[b]? = some o) : RelB P { X with kp := K } s a w β ν :=
  { os := hr.os, tape := hr.tape, output := hr.output, drawn := hr.drawn, size := hr.size, frame := hr.frame, own := hr.own, inj := hr.inj, obj := hr.obj, slot := hr.slot, keys := hr.keys, tmps := hr.tmps, defers := hr.defers, kept := hK, anch := hr.anch }

theorem arel_of {P : Program} {ok : Nat → Prop} {w : World} {s : St} {β : Nat → Option Nat} {ν : Nat → Value} {x : AV} {v : Value} (hm : ment x = []) (h : VR P ok w s β ν x [v]) : ARel P ok w x v :=
  VR_mono' (fun b hb => ⟨hb, rfl⟩) (Nat.le_refl _) x (fun o ho => by rw [hm] at ho; cases ho) h

theorem argsR_of {P : Program} {ok : Nat → Prop} {w : World} {s : St} {β : Nat → Option Nat} {ν : Nat → Value} : ∀ {xs : List AV} {vs : List Value}, (∀ x ∈ xs, ment x = []) → ArgsV P ok w s β ν xs vs → ArgsR P ok w xs vs
  | [], _, _, h => h
  | x :: xs, _, hm, h => by
    obtain ⟨v, vs', rfl, h1, h2⟩ := h
    exact ⟨v, vs', rfl, arel_of (hm x (List.mem_cons_self ..)) h1, argsR_of (fun y hy => hm y (List.mem_cons_of_mem _ hy)) h2⟩

def nodupB : List Nat → Bool
  | [] => true
  | k :: l => !l.contains k && nodupB l

theorem ofL_nodup : ∀ {l : List (Nat × AV)}, nodupB (keysL l) = true → ∀ q ∈ l, ofL l q.1 = q.2
  | [], _, q, hq => by cases hq
  | (j, x) :: l, h, q, hq => by
    simp only [keysL, List.map_cons, nodupB, Bool.and_eq_true, Bool.not_eq_true'] at h
    rcases List.mem_cons.1 hq with rfl | hq
    · simp [ofL]
    · have hne : q.1 ≠ j := fun e => by
        have : j ∈ l.map (·.1) := List.mem_map.2 ⟨q, hq, e⟩
        simp [this] at h
      have hb : Nat.beq q.1 j = false := by
        cases hb : Nat.beq q.1 j
        · rfl
        · exact absurd (Nat.eq_of_beq_eq_true hb) hne
      rw [ofL, hb]
      exact ofL_nodup (l := l) h.2 q hq

theorem closed_withA {S0 S1 : List (Nat × AV)} (hc : closedL S1 = true) (hk : keysL S1 = keysL S0) : closedL (withA S0 S1) = true := by
  have key : ∀ o, o ∈ keysL S1 → (withA S0 S1).any (fun q => Nat.beq q.1 o) = true := fun o ho => by
    obtain ⟨q, hq, rfl⟩ := List.mem_map.1 ho
    exact List.any_eq_true.2 ⟨q, List.mem_cons_of_mem _ hq, by simp⟩
  unfold closedL
  refine List.all_eq_true.2 (fun p hp => List.all_eq_true.2 (fun o ho => key o ?_))
  rcases List.mem_cons.1 hp with rfl | hp
  · rw [hk]
    exact anchor_ment S0 o ho
  · exact closedL_mem hc hp o ho

/-- The objects of a loop over a function: how they may go from S0 to S1. -/
def goodO (S0 S1 : List (Nat × AV)) : Bool :=
  nodupB (keysL S0) && S0.all (fun p => anc p.2) && closedL S0 && (keysL S0).all (fun k => Nat.blt 9999 k && !Nat.beq k 29999) && closedL S1 && (keysL S1 == keysL S0) && S0.all (fun p => !isArr p.2 || !live (ofL S1 p.1) || isArr (ofL S1 p.1))

def goodSl (n p : Nat) (sl : List (Nat × AV)) (ks : List Nat) : Bool :=
  (keysL sl).all (fun k => Nat.blt k 10000) && !(keysL sl).contains p && Nat.blt p n && Nat.blt p 10000 && sl.all (fun q => (ment q.2).all (fun o => ks.contains o))

theorem f_range {P : Program} {m : Nm} {l : List Code} {s : St} {Q : Exit → St → Prop} {g : Operand} {p : Nat} {assign body : Code} {F : FuncId} {cs : List AV} {N : Nat} {yes : Nat → Bool} {d : Nat → D}
    (sl : List (Nat × AV)) (O : Nat → List (Nat × AV)) (Sx : Nat → Option (Nat × List (Nat × AV))) (I Ix : Nat → Prop) (hI0 : I 0) (hIno : ∀ k, k < N → yes k = false → I k → I (k + 1)) (htop : m.top = true)
    (hIt : Iter P F cs N yes d) (hF : IsFn P F) (hcs : cs.all (fun y => (ment y).isEmpty) = true) (hs : Le P s (ofL (sl ++ O 0))) (hg : ev (ofL (sl ++ O 0)) g = .clo F (chainL cs))
    (hsl : goodSl m.n p sl (keysL (O 0)) = true) (hO : ∀ k, k < N → yes k = true → goodO (O k) (O (k + 1)) = true ∧ ∀ id S, Sx k = some (id, S) → goodO (O k) S = true) (hOk : ∀ k, keysL (O k) = keysL (O 0)) (hno : ∀ k, k < N → yes k = false → O (k + 1) = O k)
    (hround : ∀ k, k < N → yes k = true → I k → AWs P ⟨m.n, false⟩ [assign] (upd (ofL (sl ++ withA (O k) (O k))) p (.val (d k))) (asgQ P ⟨m.n, false⟩ body (rndQ (I (k + 1)) (Ix k) (withA (O k) (O (k + 1))) ((Sx k).map fun q => (q.1, withA (O k) q.2)))))
    (hend : I N → AWs P m l (ofL (sl ++ O N)) Q) (hexit : ∀ k id S, k < N → yes k = true → Ix k → Sx k = some (id, S) → Q (.exit id) (ofL (sl ++ S))) : AWs P m (.rangeFunc g #[p] assign body :: l) s Q := by
  intro r X a w hX hr
  obtain rfl := hX.2 htop
  obtain ⟨β, ν, hr⟩ := hs X a w hr
  simp only [goodSl, Bool.and_eq_true, Bool.not_eq_true'] at hsl
  obtain ⟨⟨⟨⟨hsl1, hsl2⟩, hpn⟩, hp4⟩, hsl3⟩ := hsl
  have hpn := blt_lt hpn
  have hp4 := blt_lt hp4
  have hslk : ∀ k ∈ keysL sl, k < 10000 := fun k hk => blt_lt (List.all_eq_true.1 hsl1 k hk)
  have hpsl : p ∉ keysL sl := fun h => by simp [h] at hsl2
  have hv := hr.eval g
  rw [hg] at hv
  obtain ⟨caps, hgv, hcv⟩ := hv
  simp only [List.cons.injEq, and_true] at hgv
  have hargs : ArgsR P (okAt X (ofL (sl ++ O 0)) β w) w cs caps.toList := argsR_of (fun x hx => by simpa using List.all_eq_true.1 hcs x hx) (ArgsV_chain hcv)
  refine wpIn_rangeFunc ?_
  intro fn _
  obtain ⟨rec, hrec⟩ : ∃ rec : LoopState → Option Code → Loop, rec = fun st pe => { state := st, pending := pe, fn, tmps := a.tmps, params := #[p], assign, body, defers := w.heap.size } := ⟨_, rfl⟩
  obtain ⟨W1, hW1⟩ : ∃ W1, (w.alloc (.deferred (some []))).alloc (.loop (rec .ready none)) = W1 := ⟨_, rfl⟩
  obtain ⟨L, hL⟩ : ∃ L, w.heap.size + 1 = L := ⟨_, rfl⟩
  have hsz1 : W1.heap.size = w.heap.size + 2 := by rw [← hW1]; simp
  have hL1 : W1.heap[L]? = some (.loop (rec .ready none)) := by
    rw [← hW1, ← hL]; have := World.alloc_heap_new (w.alloc (.deferred (some []))) (.loop (rec .ready none)); rwa [World.size_alloc] at this
  have hD1 : W1.heap[w.heap.size]? = some (.deferred (some [])) := by
    rw [← hW1]; exact (Below.heap_alloc _ _ _ (by simp)).trans (World.alloc_heap_new w _)
  have hB1 : Belw w.heap.size w W1 := by
    rw [← hW1]; exact ⟨((Below.refl _ w).alloc (Nat.le_refl _) _).alloc (by simp) _, Nat.le_refl _⟩
  have hrun := run_enterLoop_outer (P := P) (w := w) fn a.tmps #[p] assign body
  rw [show ({ state := .ready, pending := none, fn, tmps := a.tmps, params := #[p], assign, body, defers := w.heap.size } : Loop) = rec .ready none by rw [hrec], hW1, hL] at hrun
  refine ⟨L, [mk w.heap.size], W1, { target := .fn (.func F) caps, args := #[.func (.yield L) #[] #[]] }, W1, F, #[.func (.yield L) #[] #[]] ++ caps, W1, hrun, ?_, fun _ _ => trivial, ?_, (fun h => by cases h), ?_⟩
  · simp only [resolve, hgv]
    simp [Deferred.ofValue, Act.eval]
  · simp [invoke, run_callFunc hF]
  obtain ⟨KJ, hKJ⟩ : ∃ KJ : LoopState → Option Code → Nat → Option Obj, KJ = fun st pe b => if b = L then some (.loop (rec st pe)) else if b = w.heap.size then some (.deferred (some [])) else X.kp b := ⟨_, rfl⟩
  have hXkp : ∀ b o, X.kp b = some o → b < w.heap.size := fun b o h => (hr.kept b o h).1.2.1
  have hDL : w.heap.size ≠ L := by omega
  have kjL : ∀ st pe, KJ st pe L = some (.loop (rec st pe)) := fun st pe => by rw [hKJ]; simp
  have kjD : ∀ st pe, KJ st pe w.heap.size = some (.deferred (some [])) := fun st pe => by rw [hKJ]; simp [hDL]
  have kjX : ∀ st pe b, b ≠ L → b ≠ w.heap.size → KJ st pe b = X.kp b := fun st pe b h1 h2 => by rw [hKJ]; simp [h1, h2]
  obtain ⟨XJ, hXJ⟩ : ∃ XJ : LoopState → Option Code → Cx, XJ = fun st pe => { X with kp := KJ st pe } := ⟨_, rfl⟩
  have okJ : ∀ st pe s β w b, okAt (XJ st pe) s β w b ↔ okAt X s β w b := fun st pe s β w b => by rw [hXJ]; exact Iff.rfl
  -- what is so ahead of number k
  let ok : Nat → Prop := okAt X (ofL (sl ++ O 0)) β w
  let Kept : St → (Nat → Option Nat) → World → Prop := fun st β' W => w.heap.size ≤ W.heap.size ∧ ∀ b, ok b → okAt X st β' W b ∧ W.heap[b]? = w.heap[b]?
  let J : Nat → World → Prop := fun k W => I k ∧ ∃ β' ν', RelB P (XJ .ready none) (ofL (sl ++ O k)) a W β' ν' ∧ Kept (ofL (sl ++ O k)) β' W
  let Jx : Nat → World → Prop := fun k W => Ix k ∧ ∃ id S, Sx k = some (id, S) ∧ ∃ β' ν', RelB P (XJ .done (some (.exit id))) (ofL (sl ++ S)) a W β' ν'
  have hKeptB : ∀ st β' W W', Kept st β' W → Belw W.heap.size W W' → Kept st β' W' := fun st β' W W' h hb =>
    ⟨Nat.le_trans h.1 hb.size, fun b hok => ⟨⟨(h.2 b hok).1.1, Nat.lt_of_lt_of_le (h.2 b hok).1.2.1 hb.size, (h.2 b hok).1.2.2⟩, (hb.block b (h.2 b hok).1.2.1).trans (h.2 b hok).2⟩⟩
  have hrJ0 : RelB P (XJ .ready none) (ofL (sl ++ O 0)) a W1 β ν := by
    have h1 := hr.below hB1
    rw [hXJ]
    refine h1.keep _ (fun b o hb => ?_)
    have hnew : ∀ b, w.heap.size ≤ b → b < W1.heap.size → okAt X (ofL (sl ++ O 0)) β W1 b := fun b h1' h2' => ⟨.inr (.inl (Nat.le_trans hr.size h1')), h2', fun o hl h => by have := (hr.own o b hl h).2; omega⟩
    by_cases e1 : b = L
    · subst e1
      rw [kjL] at hb
      exact ⟨hnew b (by omega) (by omega), by rw [← hb]; exact hL1⟩
    · by_cases e2 : b = w.heap.size
      · subst e2
        rw [kjD] at hb
        exact ⟨hnew _ (Nat.le_refl _) (by omega), by rw [← hb]; exact hD1⟩
      · rw [kjX _ _ b e1 e2] at hb
        exact h1.kept b o hb
  have hJ0 : J 0 W1 := ⟨hI0, β, ν, hrJ0, hKeptB _ _ w _ ⟨Nat.le_refl _, fun b hb => ⟨hb, rfl⟩⟩ hB1⟩
  have hw0 : X.w0.heap.size ≤ L := by have := hr.size; omega
  have hw0D : X.w0.heap.size ≤ w.heap.size := hr.size
  refine (hIt L W1 ok caps.toList J Jx (fun b hb => Nat.lt_of_lt_of_le hb.2.1 hB1.size) (ArgsR_mono (fun b hb => ⟨hb, hB1.block b hb.2.1⟩) hB1.size hargs) ?_ ?_ ?_ ?_ ?_ hJ0).mono ?_
  · rintro k W ⟨_, β', ν', h1, h2⟩
    have hs1 : W1.heap.size ≤ W.heap.size := by
      have := (h1.kept L _ (by rw [hXJ]; exact kjL _ _)).1.2.1
      omega
    exact ⟨hs1, fun b hb _ => (h2.2 b hb).2.trans (hB1.block b hb.2.1).symm⟩
  · rintro k W W' ⟨hik, β', ν', h1, h2⟩ hb
    exact ⟨hik, β', ν', h1.below hb, hKeptB _ _ _ _ h2 hb⟩
  · rintro k W W' ⟨hik, id, S, h0, β', ν', h1⟩ hb
    exact ⟨hik, id, S, h0, β', ν', h1.below hb⟩
  · rintro k W hk hy ⟨hik, β', ν', h1, h2⟩
    refine ⟨hIno k hk hy hik, β', ν', ?_, ?_⟩
    · rw [hno k hk hy]; exact h1
    · rw [hno k hk hy]; exact h2
  · -- a round
    rintro k V1 V2 v hk hy ⟨hik, β1, ν1, hr1, hk1⟩ hB hv
    have hr2 := hr1.below hB
    have hk2 := hKeptB _ _ _ _ hk1 hB
    have hLk := hr2.kept L _ (by rw [hXJ]; exact kjL _ _)
    have hDk := hr2.kept w.heap.size _ (by rw [hXJ]; exact kjD _ _)
    have hLX := (okJ _ _ _ _ _ _).1 hLk.1
    have hDX := (okJ _ _ _ _ _ _).1 hDk.1
    have hr2s : X.w0.heap.size ≤ V1.heap.size := by have := hr1.size; rw [hXJ] at this; exact this
    have hown1 : ∀ b, V1.heap.size ≤ b → b < V2.heap.size → okAt X (ofL (sl ++ O k)) β1 V2 b := fun b h1 h2 => ⟨.inr (.inl (Nat.le_trans hr2s h1)), h2, fun o hl h => by have := (hr1.own o b hl h).2; omega⟩
    have hn2 : a.tmps.size = m.n := by have := hr2.tmps; rw [hXJ] at this; exact this.trans hX.1
    have hyd := run_yield (P := P) (args := #[v]) hLk.2 (by rw [hrec]; rfl)
    rw [hrec] at hyd
    refine ⟨fn, _, assign, body, hyd, ?_⟩
    have htm : (Array.zip #[p] #[v]).foldl (fun tmps (x : Nat × Value) => tmps.setIfInBounds x.1 x.2) a.tmps = a.tmps.setIfInBounds p v := by simp
    show RoundIn (wd none) 0 P L fn ((Array.zip #[p] #[v]).foldl (fun tmps (x : Nat × Value) => tmps.setIfInBounds x.1 x.2) a.tmps) assign body V2 _
    rw [htm]
    refine roundIn_of_wpIn trivial ?_
    show Code.wpIn (wd (some L)) 0 P assign _ _ _
    obtain ⟨hgo, hgx⟩ := hO k hk hy
    simp only [goodO, Bool.and_eq_true, beq_iff_eq] at hgo
    obtain ⟨⟨⟨⟨⟨⟨gnd, g1⟩, g2⟩, g3⟩, g4⟩, g5⟩, g6⟩ := hgo
    have hk9 : ∀ o ∈ keysL (O k), o ≠ 29999 ∧ 10000 ≤ o := by
      intro o ho
      have := List.all_eq_true.1 g3 o ho
      simp only [Bool.and_eq_true, Bool.not_eq_true'] at this
      refine ⟨fun e => ?_, by have := blt_lt this.1; omega⟩
      rw [e] at this
      exact absurd this.2 (by decide)
    have hslO : ∀ k', k' ∈ keysL sl → k' ∉ keysL (O k) := fun k' h1 h2 => by have := hslk k' h1; have := (hk9 k' h2).2; omega
    have hallO : allEq (ofL (sl ++ O k)) (O k) := allEq_self (fun q hq => by
      rw [ofL_app (fun h => hslO _ h (List.mem_map.2 ⟨q, hq, rfl⟩))]
      exact ofL_nodup gnd q hq)
    obtain ⟨X', hXn, hXw, hXd, hXk, hr0, hok0, hok0', hg0, hback⟩ := callB_core hr2 hallO (anc_D g1) g2 g3
    have hok0X : ∀ b, okAt X (ofL (sl ++ O k)) β1 V2 b → okAt X' (ofL (withA (O k) (O k))) β1 V2 b ∧ X'.ok0 b ∧ ¬ X'.bor b := fun b hb => ⟨hok0 b ((okJ _ _ _ _ _ _).2 hb), hok0' b ((okJ _ _ _ _ _ _).2 hb)⟩
    let K2 : LoopState → Nat → Option Obj := fun st b => if b = L then some (.loop (rec st none)) else if b = w.heap.size then some (.deferred (some [])) else none
    have k2L : ∀ st, K2 st L = some (.loop (rec st none)) := fun st => by simp [K2]
    have k2D : ∀ st, K2 st w.heap.size = some (.deferred (some [])) := fun st => by simp [K2, hDL]
    have k2 : ∀ st b o, K2 st b = some o → (b = L ∧ o = .loop (rec st none)) ∨ (b = w.heap.size ∧ b ≠ L ∧ o = .deferred (some [])) := fun st b o h => by
      simp only [K2] at h
      by_cases e1 : b = L
      · left; simp [e1] at h; exact ⟨e1, h.symm⟩
      · by_cases e2 : b = w.heap.size
        · right; simp [e2, hDL] at h; exact ⟨e2, e1, h.symm⟩
        · simp [e1, e2] at h
    let X2 : Cx := { n := m.n, w0 := X'.w0, ok0 := fun b => X'.ok0 b ∧ b ≠ L, bor := fun b => X'.bor b ∨ b = L, av := X'.av, kp := K2 .ready, defs := [], hok := fun b hb => ⟨(X'.hok b hb.1).1, fun h => h.elim (X'.hok b hb.1).2 hb.2⟩ }
    have okX2 : ∀ s β W b, okAt X' s β W b → okAt X2 s β W b := fun s β W b hb => by
      refine ⟨?_, hb.2⟩
      by_cases e : b = L
      · exact .inr (.inr (.inr e))
      · exact hb.1.elim (fun h => .inl ⟨h, e⟩) (fun h => .inr (h.elim .inl (fun h => .inr (.inl h))))
    have okX2' : ∀ s β W b, okAt X2 s β W b → okAt X' s β W b := fun s β W b hb => by
      refine ⟨?_, hb.2⟩
      rcases hb.1 with h | h | h | h
      · exact .inl h.1
      · exact .inr (.inl h)
      · exact .inr (.inr h)
      · exact .inl (h ▸ (hok0X L hLX).2.1)
    obtain ⟨S2, hS2⟩ : ∃ S2, S2 = upd (ofL (sl ++ withA (O k) (O k))) p (.val (d k)) := ⟨_, rfl⟩
    have hS2p : S2 p = .val (d k) := by rw [hS2, upd_same]
    have hS2s : ∀ t, t < 10000 → t ≠ p → S2 t = ofL (sl ++ O k) t := fun t ht hne => by
      rw [hS2, upd_ne _ _ hne]
      by_cases e : t ∈ keysL sl
      · rw [ofL_app' e, ofL_app' e]
      · rw [ofL_app e, ofL_app e, withA_on (by omega)]
    have hS2o : ∀ o, 10000 ≤ o → S2 o = ofL (withA (O k) (O k)) o := fun o ho => by
      rw [hS2, upd_ne _ _ (by omega), ofL_app (fun h => by have := hslk o h; omega)]
    have hver2 : ∀ t, t < 10000 → ver (S2 t) = none := fun t ht => by
      by_cases e : t = p
      · rw [e, hS2p]; rfl
      · rw [hS2s t ht e]; exact hr2.keys t ht
    have hvl : ∀ o, ver (S2 o) = ver (ofL (withA (O k) (O k)) o) ∧ live (S2 o) = live (ofL (withA (O k) (O k)) o) := fun o => by
      by_cases e : o < 10000
      · have h1 := hr0.keys o e
        rw [hver2 o e, h1, live_ver (hver2 o e), live_ver h1]
        exact ⟨rfl, rfl⟩
      · rw [hS2o o (by omega)]; exact ⟨rfl, rfl⟩
    have hok2 : ∀ W b, okAt X' (ofL (withA (O k) (O k))) β1 W b → okAt X2 S2 β1 W b := fun W b hb => okX2 _ _ _ _ ⟨hb.1, hb.2.1, fun o hl => hb.2.2 o (by rw [← (hvl o).2]; exact hl)⟩
    have hgo2 : Goes (ofL (withA (O k) (O k))) S2 β1 β1 ν1 ν1 := fun o k' hk' => ⟨k', by rw [(hvl o).1]; exact hk', Nat.le_refl _, fun _ hl => ⟨by rw [← (hvl o).2]; exact hl, rfl, rfl⟩⟩
    have hvr2 : ∀ x vs, VR P (okAt X' (ofL (withA (O k) (O k))) β1 V2) V2 (ofL (withA (O k) (O k))) β1 ν1 x vs → VR P (okAt X2 S2 β1 V2) V2 S2 β1 ν1 x vs := fun x vs h => VR_mono (fun b hb => ⟨hok2 _ b hb, rfl⟩) (Nat.le_refl _) hgo2 x h
    have hr3 : RelB P X2 S2 { tmps := a.tmps.setIfInBounds p v, defers := [] } V2 β1 ν1 := {
      os := hr0.os, tape := hr0.tape, output := hr0.output, drawn := hr0.drawn, size := hr0.size
      frame := fun b hb hn => hr0.frame b hb (fun h => hn (.inl h))
      own := fun o b hl hb => by
        have := hr0.own o b (by rw [← (hvl o).2]; exact hl) hb
        exact ⟨this.1.imp id .inl, this.2⟩
      inj := fun o o' b hl hl' => hr0.inj o o' b (by rw [← (hvl o).2]; exact hl) (by rw [← (hvl o').2]; exact hl')
      obj := fun o => by
        by_cases e : o < 10000
        · exact OR_dead (live_ver (hver2 o e))
        · rw [hS2o o (by omega)]
          exact OR_mono (fun b hb => ⟨hok2 _ b hb, rfl⟩) (Nat.le_refl _) hgo2 rfl rfl (fun _ _ => rfl) _ (hr0.obj o)
      slot := fun t ht => by
        by_cases e : t = p
        · subst e
          rw [hS2p]
          refine ⟨v, ?_, RV_mono (fun b hb => ⟨hok2 _ b (hok0X b (hb.1.elim (fun h => (hk2.2 b h).1) (fun h => hown1 b h hb.2))).1, rfl⟩) (Nat.le_refl _) hv⟩
          have : t < a.tmps.size := by omega
          simp [Array.getD_eq_getD_getElem?, this]
        · rw [hS2s t ht e]
          have e2 : (a.tmps.setIfInBounds p v).getD t undef = a.tmps.getD t undef := by
            simp only [Array.getD_eq_getD_getElem?]
            rw [Array.getElem?_setIfInBounds, if_neg (fun h => e h.symm)]
          show VR P _ V2 S2 β1 ν1 _ [(a.tmps.setIfInBounds p v).getD t undef]
          rw [e2]
          refine hvr2 _ _ (VR_mono' (fun b hb => ⟨hok0 b hb, rfl⟩) (Nat.le_refl _) _ (fun o ho => hg0 o ?_) (hr2.slot t ht))
          by_cases e3 : t ∈ keysL sl
          · rw [ofL_app' e3] at ho
            have := List.all_eq_true.1 (List.all_eq_true.1 hsl3 _ (ofL_mem e3)) o ho
            rw [hOk k]
            simpa using this
          · rw [ofL_app e3, ofL_off (fun h => by have := (hk9 t h).2; omega)] at ho
            cases ho
      keys := hver2
      tmps := by simp [X2, hn2]
      defers := rfl
      kept := fun b o hb => by
        rcases k2 _ b o hb with ⟨rfl, rfl⟩ | ⟨rfl, _, rfl⟩
        · exact ⟨hok2 _ _ (hok0X _ hLX).1, hLk.2⟩
        · exact ⟨hok2 _ _ (hok0X _ hDX).1, hDk.2⟩
      anch := fun hv' => by
        rw [hS2o 29999 (by omega)] at hv' ⊢
        exact hvr2 _ _ (hr0.anch hv') }
    have hro := (hround k hk hy hik).one
    rw [← hS2] at hro
    refine wpIn_mono (hro (some L) X2 _ V2 ⟨rfl, fun h => by cases h⟩ ⟨β1, ν1, hr3⟩) ?_
    rintro e a3 W3 ⟨s3, X3, hx3, hq3, β3, ν3, hr3'⟩
    cases e with
    | normal =>
      have hL3 := hr3'.kept L _ (hx3.kp L _ (k2L _))
      have hD3 := hr3'.kept w.heap.size _ (hx3.kp _ _ (k2D _))
      refine ⟨_, run_beginRound hL3.2 (by rw [hrec]), ?_⟩
      have hbL : X3.bor L := by rw [hx3.bor]; exact .inr rfl
      have hbusy : ({ rec .ready none with state := .busy } : Loop) = rec .busy none := by rw [hrec]
      rw [hbusy]
      have hr4 := hr3'.shut1 (o' := .loop (rec .busy none)) hL3.1 hL3.2 rfl (.inr hbL) (K2 .busy) (fun b o hb => by
        rcases k2 _ b o hb with ⟨rfl, rfl⟩ | ⟨rfl, h1, rfl⟩
        · exact .inr ⟨rfl, rfl⟩
        · exact .inl ⟨hx3.kp _ _ (k2D _), h1⟩) X3.defs
      have ha3 : ({ a3 with defers := X3.defs } : Act) = a3 := by rw [← hr3'.defers]
      rw [ha3] at hr4
      refine wpIn_mono (hq3.one (some L) { X3 with kp := K2 .busy, defs := X3.defs } a3 _ ⟨hx3.n, fun h => by cases h⟩ ⟨β3, ν3, hr4⟩) ?_
      rintro e a5 W5 ⟨s5, X5, hx5, hq5, β5, ν5, hr5⟩
      have hL5 := hr5.kept L _ (hx5.kp L _ (k2L _))
      have hw5 : X5.w0 = X'.w0 := hx5.w0.trans hx3.w0
      have hk5 : X5.ok0 = X2.ok0 := hx5.ok0.trans hx3.ok0
      have hb5 : X5.bor = X2.bor := hx5.bor.trans hx3.bor
      have ha5 : X5.av = X'.av := hx5.av.trans hx3.av
      have ok5 : ∀ s β W b, okAt X5 s β W b → okAt X' s β W b := fun s β W b hb => okX2' s β W b (by unfold okAt at hb ⊢; rw [hk5, hw5, hb5] at hb; exact hb)
      have fin : ∀ S1, goodO (O k) S1 = true → allEq s5 (withA (O k) S1) → ∃ β' ν', RelB P (XJ .ready none) (ofL (sl ++ S1)) a (W5.putObj L (.loop (rec .ready none))) β' ν' ∧ V2.heap.size ≤ W5.heap.size ∧
          ∀ b, okAt X (ofL (sl ++ O k)) β1 V2 b → okAt X (ofL (sl ++ S1)) β' (W5.putObj L (.loop (rec .ready none))) b ∧ (W5.putObj L (.loop (rec .ready none))).heap[b]? = V2.heap[b]? := by
        intro S1 hgS hall
        simp only [goodO, Bool.and_eq_true, beq_iff_eq] at hgS
        obtain ⟨⟨⟨_, c4⟩, c5⟩, c6⟩ := hgS
        have hr6 := hr5.ofL hall (closed_withA c4 c5)
        have hL6 := hr6.kept L _ (hx5.kp L _ (k2L _))
        have hne : ∀ b, b ≠ L → (W5.putObj L (.loop (rec .ready none))).heap[b]? = W5.heap[b]? := fun b h => World.putObj_heap_other h
        have hs6 : W5.heap.size ≤ (W5.putObj L (.loop (rec .ready none))).heap.size := by simp
        have hkc : ∀ b, okAt X5 (ofL (withA (O k) S1)) β5 W5 b → okAt X' (ofL (withA (O k) S1)) β5 (W5.putObj L (.loop (rec .ready none))) b ∧ (cellsB W5.heap[b]? = true → (W5.putObj L (.loop (rec .ready none))).heap[b]? = W5.heap[b]?) := fun b hb =>
          ⟨ok5 _ _ _ _ ⟨hb.1, Nat.lt_of_lt_of_le hb.2.1 hs6, hb.2.2⟩, fun h => hne b (fun e => by rw [e, hL6.2] at h; cases h)⟩
        have hany : ∀ t, t < 10000 → ofL (withA (O k) S1) t = .any := fun t ht => by
          rw [withA_on (by omega), ofL_off (fun h => by rw [c5] at h; have := (hk9 t h).2; omega)]
        have hr7 : RelB P X' (ofL (withA (O k) S1)) a (W5.putObj L (.loop (rec .ready none))) β5 ν5 := {
          os := by have := hr6.os; rw [hw5] at this; exact this
          tape := by have := hr6.tape; rw [hw5] at this; exact this
          output := by have := hr6.output; rw [hw5] at this; exact this
          drawn := by have := hr6.drawn; rw [hw5] at this; exact this
          size := by have := hr6.size; rw [hw5] at this; exact Nat.le_trans this hs6
          frame := fun b hb hn => by
            by_cases e : b = L
            · subst e
              rw [World.putObj_heap_same hL6.1.2.1, hXw, hLk.2]
            · rw [hne b e]
              have := hr6.frame b (by rw [hw5]; exact hb) (by rw [hb5]; exact fun h => h.elim hn e)
              rw [hw5] at this
              exact this
          own := fun o b hl hb => by
            have := hr6.own o b hl hb
            rw [hw5, hb5] at this
            refine ⟨this.1.imp id (fun h => h.elim id (fun e => ?_)), Nat.lt_of_lt_of_le this.2 hs6⟩
            subst e
            exact absurd hb (hL6.1.2.2 o hl)
          inj := hr6.inj
          obj := fun o => by
            cases hl : live (ofL (withA (O k) S1) o) with
            | false => exact OR_dead hl
            | true => exact OR_monoC hkc hs6 (Goes.refl _ _ _) rfl rfl (fun b hb => hne b (fun e => by subst e; exact hL6.1.2.2 o hl hb)) _ (hr6.obj o)
          slot := fun t ht => by rw [hany t ht]; exact ⟨_, rfl⟩
          keys := fun t ht => by rw [hany t ht]; rfl
          tmps := hXn.symm
          defers := hXd.symm
          kept := fun b o hb => by rw [hXk b] at hb; cases hb
          anch := fun hv' => by
            have := VR_monoC' hkc hs6 _ (fun o _ => Goes.refl _ _ _ o) (hr6.anch hv')
            rw [ha5] at this
            exact this }
        obtain ⟨β', ν', e1, _, e3, _⟩ := hback S1 (DeadOk.none g1) c4 c5 c6 _ β5 ν5 hr7
        have hupd : updL (ofL (sl ++ O k)) S1 = ofL (sl ++ S1) := by
          funext t
          by_cases h1 : t ∈ keysL S1
          · rw [updL_on h1, ofL_app (fun h => hslO t h (by rw [← c5]; exact h1))]
          · rw [updL_off h1]
            by_cases h2 : t ∈ keysL sl
            · rw [ofL_app' h2, ofL_app' h2]
            · rw [ofL_app h2, ofL_app h2, ofL_off h1, ofL_off (by rw [← c5]; exact h1)]
        rw [hupd] at e1 e3
        refine ⟨β', ν', e1, by have := hr6.size; rw [hw5, hXw] at this; exact this, fun b hb => ?_⟩
        have := e3 b ((okJ _ _ _ _ _ _).2 hb)
        exact ⟨(okJ _ _ _ _ _ _).1 this.1, this.2⟩
      have hLV : L < V1.heap.size := (hr1.kept L _ (by rw [hXJ]; exact kjL _ _)).1.2.1
      cases e with
      | normal =>
        obtain ⟨β', ν', e1, e2, e3⟩ := fin (O (k + 1)) (hO k hk hy).1 hq5.2
        have hend := run_endRound (P := P) none hL5.2
        have hw6 : ({ rec .busy none with state := if (none : Option Code).isNone then .ready else .done, pending := none } : Loop) = rec .ready none := by rw [hrec]; rfl
        rw [hw6] at hend
        refine ⟨_, _, hend, .inl ⟨rfl, hq5.1, β', ν', e1, ?_, ?_⟩, by simpa using e2, ?_⟩
        · have := hk2.1; simp; omega
        · intro b hb
          have h1 := hk2.2 b hb
          have h2 := e3 b h1.1
          exact ⟨h2.1, h2.2.trans h1.2⟩
        · intro b hb _
          exact (e3 b (hb.elim (fun h => (hk2.2 b h).1) (fun h => hown1 b h.1 h.2))).2
      | exit id =>
        cases hsx : Sx k with
        | none => rw [hsx] at hq5; exact hq5.elim
        | some q =>
          obtain ⟨id', S⟩ := q
          rw [hsx] at hq5
          obtain ⟨rfl, hqx, hq5⟩ := hq5
          obtain ⟨β', ν', e1, e2, e3⟩ := fin S (hgx _ _ hsx) hq5
          have hend := run_endRound (P := P) (some (.exit id')) hL5.2
          have hw6 : ({ rec .busy none with state := if (some (Code.exit id')).isNone then .ready else .done, pending := some (.exit id') } : Loop) = rec .done (some (.exit id')) := by rw [hrec]; rfl
          rw [hw6] at hend
          have hpp : W5.putObj L (.loop (rec .done (some (.exit id')))) = (W5.putObj L (.loop (rec .ready none))).putObj L (.loop (rec .done (some (.exit id')))) := by simp [World.putObj]
          have hLe := e1.kept L _ (by rw [hXJ]; exact kjL _ _)
          refine ⟨_, _, hend, .inr ⟨rfl, hqx, id', S, hsx, β', ν', ?_⟩, by simpa using e2, ?_⟩
          · rw [hpp]
            have h8 := e1.shut1 (o' := .loop (rec .done (some (.exit id')))) hLe.1 hLe.2 rfl (.inl (by rw [hXJ]; exact hw0)) (KJ .done (some (.exit id'))) (fun b o hb => by
              by_cases e : b = L
              · subst e; rw [kjL] at hb; exact .inr ⟨rfl, (Option.some.inj hb).symm⟩
              · refine .inl ⟨?_, e⟩
                rw [hXJ]
                show KJ .ready none b = some o
                rw [hKJ] at hb ⊢
                simpa [e] using hb) X.defs
            have haa : ({ a with defers := X.defs } : Act) = a := by rw [← hr.defers]
            rw [haa] at h8
            rw [hXJ] at h8 ⊢
            exact h8
          · intro b hb _
            have hbL : b ≠ L := by
              rcases hb with h | h
              · have := h.2.1; omega
              · omega
            rw [hpp, World.putObj_heap_other hbL]
            exact (e3 b (hb.elim (fun h => (hk2.2 b h).1) (fun h => hown1 b h.1 h.2))).2
      | _ => exact hq5.elim
    | _ => exact hq3.elim
  · -- behind the loop
    rintro e W' ⟨⟨v, rfl⟩, hW'⟩
    let XF : Cx := { X with kp := fun b => if b = w.heap.size then some (.deferred (some [])) else X.kp b, defs := mk w.heap.size :: X.defs }
    have hext : Ext X XF := ⟨rfl, rfl, rfl, rfl, rfl, fun b o hb => by
      have := hXkp b o hb
      show (if b = w.heap.size then _ else X.kp b) = some o
      rw [if_neg (by omega)]
      exact hb, [w.heap.size], rfl, by simp, fun D hD => by
      rw [List.mem_singleton] at hD
      subst hD
      refine ⟨?_, by simp [XF], hw0D⟩
      cases e : X.kp w.heap.size with
      | none => rfl
      | some o => have := hXkp _ o e; omega⟩
    have hfin : ∀ st pe s o', ∀ {β' : Nat → Option Nat} {ν' : Nat → Value}, RelB P (XJ st pe) s a W' β' ν' → RelB P XF s { a with defers := [mk w.heap.size] ++ a.defers } (W'.putObj L o') β' ν' := by
      intro st pe s o' β' ν' h1
      have hLk := h1.kept L _ (by rw [hXJ]; exact kjL _ _)
      have h8 := h1.shut1 (o' := o') hLk.1 hLk.2 rfl (.inl (by rw [hXJ]; exact hw0)) XF.kp (fun b o hb => .inl (by
        have hb' : (if b = w.heap.size then some (Obj.deferred (some [])) else X.kp b) = some o := hb
        by_cases e : b = w.heap.size
        · subst e
          rw [if_pos rfl] at hb'
          refine ⟨?_, hDL⟩
          rw [hXJ, ← hb']
          exact kjD _ _
        · rw [if_neg e] at hb'
          have := hXkp b o hb'
          refine ⟨?_, by omega⟩
          rw [hXJ, ← hb']
          exact kjX _ _ b (by omega) e)) (mk w.heap.size :: X.defs)
      rw [← hr.defers] at h8
      rw [hXJ] at h8
      rw [hr.defers] at h8 ⊢
      exact h8
    rcases hW' with ⟨hiN, β', ν', h1, h2⟩ | ⟨k, hk, hy, hix, id, S, h0, β', ν', h1⟩
    · have hLk := h1.kept L _ (by rw [hXJ]; exact kjL _ _)
      have hend' := run_endLoop (P := P) hLk.2 (by rw [hrec]; simp)
      rw [show (rec .ready none).pending = none by rw [hrec]] at hend'
      refine ⟨none, _, hend', ?_⟩
      exact ⟨_, _, hext, hend hiN, β', ν', hfin _ _ _ _ h1⟩
    · have hLk := h1.kept L _ (by rw [hXJ]; exact kjL _ _)
      have hend' := run_endLoop (P := P) hLk.2 (by rw [hrec]; simp)
      rw [show (rec .done (some (.exit id))).pending = some (.exit id) by rw [hrec]] at hend'
      refine ⟨some (.exit id), _, hend', ?_⟩
      exact wpIn_exit ⟨_, _, hext, hexit k id S hk hy hix h0, β', ν', hfin _ _ _ _ h1⟩

/-! ### A function that makes a function -/

/-- What a call comes to whose result is no data: it reads as y. -/
def SpecA (P : Program) (f : FuncId) (args : List AV) (y : AV) : Prop :=
  ∀ (w : World) (ok : Nat → Prop) (vs : List Value), (∀ b, ok b → b < w.heap.size) → ArgsR P ok w args vs → Calls P f vs.toArray w (fun e w' => ∃ v, e = .returned v ∧ ARel P (fun b => ok b ∨ (w.heap.size ≤ b ∧ b < w'.heap.size)) w' y v ∧ Belw w.heap.size w w')

def ResA (P : Program) (fn : Func) (s : St) (y : AV) : Prop :=
  ∀ (X : Cx) (a : Act) (w : World) (β : Nat → Option Nat) (ν : Nat → Value), (∀ b, ¬ X.bor b) → RelB P X s a w β ν →
    ∃ v, (results fn a.tmps).run P w = .ok v w ∧ ARel P (fun b => (X.ok0 b ∨ X.w0.heap.size ≤ b) ∧ b < w.heap.size) w y v

def EndsA (P : Program) (fn : Func) (y : AV) (e : Exit) (s : St) : Prop := (e = .ret ∨ e = .normal) ∧ ResA P fn s y

theorem specA_of' {P : Program} {f : FuncId} {fn : Func} {c : Code} {args : List AV} {y : AV} (hf : P.funcs[f]? = some fn) (hb : fn.body = some c) {n : Nat} (hn : fn.ntmps = n) (hl : Nat.blt args.length (n + 1) = true)
    (h : AWs P ⟨n, true⟩ [c] (initS args) (EndsA P fn y)) : SpecA P f args y := by
  intro w ok vs hok hargs
  obtain ⟨X, hXn, rfl, rfl, hXb, hXd, hXk, hr⟩ := start_rel (fn := fn) hn (by have := blt_lt hl; omega) hok hargs
  refine calls_of_aft hf hb hXd (fun e s h => h.1) (h.one none X _ _ ⟨hXn, fun _ => rfl⟩ hr) ?_
  rintro en s X' a' w' β ν ⟨he, hres⟩ x1 x2 x3 x4 x5 x6 hr'
  obtain ⟨v, hv1, hv2⟩ := hres X' a' w' β ν (fun b => by rw [x4]; exact hXb b) hr'
  rw [x2, x3] at hv2
  refine ⟨v, hv1, v, rfl, VR_mono (fun b hb => ⟨hb.1.elim .inl (fun h => .inr ⟨h, hb.2⟩), rfl⟩) (Nat.le_refl _) (Goes.refl _ _ _) _ hv2, ⟨⟨?_, ?_, ?_, ?_, ?_⟩, ?_⟩⟩
  · rw [← x2]; exact hr'.os
  · rw [← x2]; exact hr'.tape
  · rw [← x2]; exact hr'.output
  · rw [← x2]; exact hr'.size
  · intro k hk; rw [← x2] at hk ⊢; exact hr'.frame k hk (by rw [x4]; exact hXb k)
  · rw [← x2]; exact hr'.drawn

theorem argsR_chain {P : Program} {ok : Nat → Prop} {w : World} : ∀ {ys : List AV} {vs : List Value}, ArgsR P ok w ys vs → VR P ok w (fun _ => .any) (fun _ => none) (fun _ => undef) (chainL ys) vs
  | [], _, h => h
  | y :: ys, _, h => by
    obtain ⟨v, vs', rfl, h1, h2⟩ := h
    exact ⟨v, vs', rfl, h1, argsR_chain h2⟩

theorem resA_clo {P : Program} {fn : Func} {s : St} {t : Nat} {F : FuncId} {c : AV} {ys : List AV} {K : List Nat} (hf : fn.results = #[.tmp t]) (ht : Nat.blt t 10000 = true) (h : s t = .clo F c) (hc : ShowsL true P s c ys K) : ResA P fn s (.clo F (chainL ys)) := by
  intro X a w β ν hbor hr
  have hs := hr.slot t (blt_lt ht)
  rw [h] at hs
  obtain ⟨caps, e, h1⟩ := hs
  simp only [List.cons.injEq, and_true] at e
  refine ⟨a.tmps.getD t undef, ?_, ?_⟩
  · exact results_tmp hf _ _ _
  · rw [e]
    refine ⟨caps, rfl, ?_⟩
    refine VR_mono (fun b hb => ⟨⟨hb.1.elim .inl (fun h => h.elim .inr (fun h => absurd h (hbor b))), hb.2.1⟩, rfl⟩) (Nat.le_refl _) (Goes.refl _ _ _) _ (argsR_chain (hc.args X s a w β ν _ (fun _ _ => rfl) hr h1))

theorem endsA_ret {P : Program} {fn : Func} {y : AV} {s : St} (h : ResA P fn s y) : EndsA P fn y .ret s := ⟨.inl rfl, h⟩

theorem c_callA {P : Program} {s : St} {o : Oper} {f : FuncId} {xs : List Operand} {T : Array TypeId} {ys : List AV} {K : List Nat} {y : AV} (ho : o.op = .call { callee := .value (.func f), args := xs.toArray, argTypes := T }) (hf : IsFn P f) (hs : SpecA P f ys y) (hx : SArgs false P s xs ys K) (hv : ver y = none) : CStep P o K s y := by
  intro X t a w β ν hk hr
  refine ⟨hv, fun Q K' hK => ?_⟩
  have hargs := SArgs.args hr hk hx
  have hc := hs w (okq false X t β w) (xs.map a.eval) (fun b hb => okq_lt hb) hargs
  have hrun : (execOp a.eval o).run P w = .ok (.enter f (xs.map a.eval).toArray) w := by
    simp [execOp, ho, resolve, Act.eval, Deferred.ofValue, invoke, run_callFunc hf]
  unfold Oper.wp
  rw [hrun]
  refine hc.mono ?_
  rintro e w' ⟨v, rfl, hv, hbel⟩
  refine hK v w' (hr.below hbel) ?_
  refine VR_mono (fun b hb => ⟨?_, rfl⟩) (Nat.le_refl _) (Goes.refl _ _ _) _ (ARel_ment _ hv t β ν)
  rcases hb with hb | hb
  · exact ⟨hb.1, Nat.lt_of_lt_of_le hb.2.1 hbel.size, hb.2.2⟩
  · exact ⟨.inr (.inl (Nat.le_trans hr.size hb.1)), hb.2, fun o hl h => by have := (hr.own o b hl h).2; omega⟩

end Go.Um
