/- Steps of operations with their footprints; a region walked in the text's order serves every order; code, loops, contracts. No condition. -/
import Derived.Test.YtpjenbbalengoaaRel
import Derived.Deep.LoopGhost
import Derived.Sort.LoopGhostIn
import Derived.OrdersIn
import Derived.RangeFuncNested
import Derived.RangeFuncLeaves
namespace Go.Um
open Go Go.RowKit

def opWp (P : Program) (ops : Array Oper) (Q : Exit → Act → World → Prop) (o : Oper) (K : Act → World → Prop) (a : Act) (w : World) : Prop :=
  if Region.wanted o (yielded ops a.tmps) then o.wp P a w K Q ∨ (o.asks P a w ∧ LetsOut Q) else K (a.put o.dst undef) w

theorem opWp_mono {P : Program} {ops : Array Oper} {Q : Exit → Act → World → Prop} {o : Oper} {K K' : Act → World → Prop} {a : Act} {w : World} (h : ∀ a w, K a w → K' a w)
    (hh : opWp P ops Q o K a w) : opWp P ops Q o K' a w := by
  unfold opWp at *
  split
  · rename_i hw; simp only [hw, if_true] at hh; (rcases hh with hh | hh); exact .inl (Oper.wp_mono h hh); exact .inr hh
  · rename_i hw; simp only [hw] at hh; exact h _ _ hh

def ovr (t : St) (W : List Nat) (s' : St) : St := fun k => if k ∈ W then s' k else t k

theorem ovr_self {s s' : St} {W : List Nat} (h : ∀ k, k ∉ W → s' k = s k) : ovr s W s' = s' := by
  funext k
  unfold ovr
  split
  · rfl
  · rename_i hk; exact (h k hk).symm

/-- An operation leads from s to s', whatever else the state holds: it looks at the keys K and writes the keys W. -/
def LStep (P : Program) (n : Nat) (ops : Array Oper) (o : Oper) (F : List Nat × List Nat) (s s' : St) : Prop :=
  (∀ k, k ∉ F.2 → s' k = s k) ∧
  ∀ (X : Cx) (t : St) (a : Act) (w : World), X.n = n → (∀ k ∈ F.1, t k = s k) → Rel P X t a w → ∀ Q, opWp P ops Q o (fun a' w' => Rel P X (ovr t F.2 s') a' w') a w

/-- A derivation: steps in a row, over operations by their numbers. -/
def Der (P : Program) (n : Nat) (ops : Array Oper) : List (Nat × (List Nat × List Nat)) → St → St → Prop
  | [], s, s' => s' = s
  | (i, F) :: L, s, s' => ∃ o s1, ops[i]? = some o ∧ LStep P n ops o F s s1 ∧ Der P n ops L s1 s'

def clash (f g : List Nat × List Nat) : Bool := f.2.any (fun k => g.1.contains k || g.2.contains k) || g.2.any (fun k => f.1.contains k)

theorem clash_no {f g : List Nat × List Nat} (h : clash f g = false) : (∀ k, k ∈ f.2 → k ∉ g.1 ∧ k ∉ g.2) ∧ (∀ k, k ∈ g.2 → k ∉ f.1 ∧ k ∉ f.2) := by
  simp only [clash, Bool.or_eq_false_iff, List.any_eq_false, Bool.or_eq_true, List.contains_eq_mem, decide_eq_true_eq, not_or] at h
  refine ⟨fun k hk => h.1 k hk, fun k hk => ⟨h.2 k hk, fun hk' => (h.1 k hk').2 hk⟩⟩

section
variable {P : Program} {n : Nat} {ops : Array Oper}

theorem LStep.agree {o : Oper} {F : List Nat × List Nat} {s s' t : St} (h : LStep P n ops o F s s') (ht : ∀ k ∈ F.1, t k = s k) : LStep P n ops o F t (ovr t F.2 s') := by
  refine ⟨fun k hk => by simp [ovr, hk], fun X u a w hX hu hr Q => ?_⟩
  refine opWp_mono (fun a' w' h' => ?_) (h.2 X u a w hX (fun k hk => (hu k hk).trans (ht k hk)) hr Q)
  have : ovr u F.2 (ovr t F.2 s') = ovr u F.2 s' := by funext k; simp only [ovr]; split <;> rfl
  rw [this]
  exact h'

theorem LStep.swap {o o' : Oper} {F G : List Nat × List Nat} {s s1 s2 : St} (h1 : LStep P n ops o F s s1) (h2 : LStep P n ops o' G s1 s2) (hc : clash F G = false) :
    ∃ s1', LStep P n ops o' G s s1' ∧ LStep P n ops o F s1' s2 := by
  obtain ⟨c1, c2⟩ := clash_no hc
  have e1 : ∀ k ∈ G.1, s k = s1 k := fun k hk => (h1.1 k (fun hk' => (c1 k hk').1 hk)).symm
  have hg := h2.agree e1
  refine ⟨ovr s G.2 s2, hg, ?_⟩
  have e2 : ∀ k ∈ F.1, (ovr s G.2 s2) k = s k := fun k hk => by
    have : k ∉ G.2 := fun hk' => (c2 k hk').1 hk
    simp [ovr, this]
  have hf := h1.agree e2
  have : ovr (ovr s G.2 s2) F.2 s1 = s2 := by
    funext k
    simp only [ovr]
    split
    · rename_i hk; exact (h2.1 k (c1 k hk).2).symm
    · rename_i hk
      split
      · rfl
      · rename_i hk'; rw [h2.1 k hk', h1.1 k hk]
  rw [this] at hf
  exact hf

theorem Der.pull {i : Nat} {F : List Nat × List Nat} {B : List (Nat × (List Nat × List Nat))} : ∀ (A : List (Nat × (List Nat × List Nat))) {s s' : St}, Der P n ops (A ++ (i, F) :: B) s s' →
    (∀ p ∈ A, clash p.2 F = false) → ∃ o s1, ops[i]? = some o ∧ LStep P n ops o F s s1 ∧ Der P n ops (A ++ B) s1 s'
  | [], s, s', h, _ => h
  | (j, G) :: A, s, s', h, hc => by
    obtain ⟨oj, s1, hj, h1, h2⟩ := h
    obtain ⟨o, s2, ho, h3, h4⟩ := Der.pull A h2 (fun p hp => hc p (List.mem_cons_of_mem _ hp))
    obtain ⟨s1', h5, h6⟩ := h1.swap h3 (hc (j, G) (List.mem_cons_self ..))
    exact ⟨o, s1', ho, h5, oj, s2, hj, h6, h4⟩

/-- One operation waits for another one, on some steps. -/
def reach (ops : Array Oper) : Nat → Nat → Nat → Bool
  | 0, _, _ => false
  | f + 1, q, i => ((ops[q]?).map fun o => o.after.any fun e => Region.binds .any e && e.on == i).getD false || ((ops[q]?).map fun o => o.after.any fun e => Region.binds .any e && reach ops f e.on i).getD false

theorem reach_listed {listed : Array Bool} {i : Nat} (hcl : ∀ q o, ops[q]? = some o → listed.getD q false = true → ∀ e ∈ o.after, Region.binds .any e = true → listed.getD e.on false = true) :
    ∀ (f q : Nat) (o : Oper), ops[q]? = some o → (∀ e ∈ o.after, Region.binds .any e = true → listed.getD e.on false = true) → reach ops f q i = true → listed.getD i false = true
  | 0, _, _, _, _, h => by cases h
  | f + 1, q, o, ho, hq, h => by
    unfold reach at h
    rw [ho] at h
    simp only [Option.map_some, Option.getD_some, Bool.or_eq_true] at h
    rcases h with h | h
    · obtain ⟨e, hem, h2⟩ := Array.any_eq_true'.1 h
      simp only [Bool.and_eq_true, beq_iff_eq] at h2
      rw [← h2.2]
      exact hq e hem h2.1
    · obtain ⟨e, hem, h2⟩ := Array.any_eq_true'.1 h
      simp only [Bool.and_eq_true] at h2
      have h3 := hq e hem h2.1
      cases f with
      | zero => cases h2.2
      | succ f =>
        cases ho' : ops[e.on]? with
        | none => have h4 := h2.2; unfold reach at h4; rw [ho'] at h4; cases h4
        | some o' => exact reach_listed hcl (f + 1) e.on o' ho' (hcl e.on o' ho' h3) h2.2

/-- What is asked of a drawn region: every edge that binds leads back, and of two operations that touch one key the later one has an edge on the earlier one. -/
def drawOk (ops : Array Oper) : List (Nat × (List Nat × List Nat)) → Bool
  | [] => true
  | (i, F) :: L => drawOk ops L && L.all fun q => (i < q.1) && (!clash F q.2 || reach ops 3 q.1 i)

def edgesOk (ops : Array Oper) : Bool := (List.range ops.size).all fun i => ((ops[i]?).map fun o => o.after.all fun e => !Region.binds .any e || decide (e.on < i)).getD true

theorem drawOk_erase {i : Nat} {F : List Nat × List Nat} {B : List (Nat × (List Nat × List Nat))} : ∀ (A : List (Nat × (List Nat × List Nat))), drawOk ops (A ++ (i, F) :: B) = true → drawOk ops (A ++ B) = true
  | [], h => by simp only [List.nil_append, drawOk, Bool.and_eq_true] at h ⊢; exact h.1
  | (j, G) :: A, h => by
    simp only [List.cons_append, drawOk, Bool.and_eq_true, List.all_eq_true] at h ⊢
    refine ⟨drawOk_erase A h.1, fun q hq => h.2 q ?_⟩
    simp only [List.mem_append, List.mem_cons] at hq ⊢
    rcases hq with hq | hq
    · exact .inl hq
    · exact .inr (.inr hq)

theorem drawOk_ahead {i : Nat} {F : List Nat × List Nat} {B : List (Nat × (List Nat × List Nat))} : ∀ (A : List (Nat × (List Nat × List Nat))), drawOk ops (A ++ (i, F) :: B) = true →
    ∀ p ∈ A, p.1 < i ∧ (clash p.2 F = true → reach ops 3 i p.1 = true)
  | [], _, p, hp => by cases hp
  | (j, G) :: A, h, p, hp => by
    simp only [List.cons_append, drawOk, Bool.and_eq_true, List.all_eq_true] at h
    rcases List.mem_cons.1 hp with rfl | hp
    · have := h.2 (i, F) (by simp)
      simp only [decide_eq_true_eq, Bool.or_eq_true, Bool.not_eq_true'] at this
      refine ⟨this.1, fun hc => ?_⟩
      rcases this.2 with h' | h'
      · rw [hc] at h'; cases h'
      · exact h'
    · exact drawOk_ahead A h.1 p hp

theorem drawOk_tail {B : List (Nat × (List Nat × List Nat))} : ∀ (A : List (Nat × (List Nat × List Nat))), drawOk ops (A ++ B) = true → drawOk ops B = true
  | [], h => h
  | (j, G) :: A, h => by simp only [List.cons_append, drawOk, Bool.and_eq_true] at h; exact drawOk_tail A h.1

/-- The widest fence, within a round of a loop over a function, or outside. -/
def wd (r : Option Nat) : Fence := { Fence.wide with round := r }

theorem fenced_wd (P : Program) (r : Option Nat) (m : Machine) : m.fenced P (wd r) := fenced_wide P m

theorem callsIn_wd {r : Option Nat} {k : Nat} {P : Program} {f : FuncId} {args : Array Value} {w : World} {R : Ending → World → Prop} (h : Calls P f args w R) : CallsIn (wd r) k P f args w R := by
  have := (callsIn_wide (n := k)).2 h
  exact ⟨trivial, this.2⟩

def notDefer (o : Oper) : Bool :=
  match o.op with
  | .defer _ => false
  | _ => true

theorem semAt_wd {r : Option Nat} {o : Oper} (h : notDefer o = true) (ev : Operand → Value) : o.semAt r ev = execOp ev o :=
  Oper.semAt_eq r ev o (fun c e => by unfold notDefer at h; rw [e] at h; cases h)

theorem rowsIn_wd {r : Option Nat} {k : Nat} {P : Program} {row : String} {args : Array Value} {w : World} {R : Value → World → Prop} (h : Rows P row args w R) : RowsIn (wd r) k P row args w R := by
  intro c cs _
  obtain ⟨v, w', h1, h2⟩ := h c cs
  exact ⟨v, w', h1, stepsIn_wide.2 h2⟩

theorem wpIn_of_wp {r : Option Nat} {k : Nat} {P : Program} {o : Oper} {a : Act} {w : World} {K : Act → World → Prop} (Q : Exit → Act → World → Prop) (hd : notDefer o = true) (h : o.wp P a w K (fun _ _ _ => False)) : o.wpIn (wd r) k P a w K Q := by
  refine ⟨fun _ _ => trivial, ?_⟩
  have e : (wd r).round = r := rfl
  rw [e, semAt_wd hd]
  unfold Oper.wp at h
  generalize (execOp a.eval o).run P w = x at h
  have hdp : (wd r).depth.isSome = true → 1 ≤ k := fun h => by cases h
  cases x with
  | ok x w' =>
    cases x with
    | enter f args =>
      refine ⟨hdp, callsIn_wd (Calls.mono h ?_)⟩
      intro e w'' he
      cases e with
      | returned v => exact he
      | panicked c => exact he.elim
      | outgrown => obtain ⟨_, _, h⟩ := he; exact h.elim
    | row rw args => exact ⟨hdp, rowsIn_wd h⟩
    | value v => exact h
    | skip => exact h
    | defer d => exact h
    | _ => exact h.elim
  | halt x w' =>
    cases x <;> exact h.elim

theorem wpOpIn_of {r : Option Nat} {P : Program} {ops : Array Oper} {i : Nat} {o : Oper} (Q : Exit → Act → World → Prop) {K : Act → World → Prop} {a : Act} {w : World} (ho : ops[i]? = some o) (hd : notDefer o = true) (h : ∀ Q, opWp P ops Q o K a w) : wpOpIn (wd r) 0 P ops Q i K a w := by
  have h := h (fun _ _ _ => False)
  unfold wpOpIn
  unfold opWp at h
  rw [ho]
  simp only
  split
  · rename_i hw
    simp only [hw, if_true] at h
    rcases h with h | ⟨_, _, _, h⟩
    · exact wpIn_of_wp Q hd h
    · exact h.elim
  · rename_i hw
    simp only [hw] at h
    exact ⟨fun _ _ => trivial, h⟩

def noDef (ops : Array Oper) : Bool := ops.all notDefer

theorem noDef_at {ops : Array Oper} {i : Nat} {o : Oper} (h : noDef ops = true) (ho : ops[i]? = some o) : notDefer o = true := by
  obtain ⟨hi, e⟩ := Array.getElem?_eq_some_iff.1 ho
  rw [← e]
  exact Array.all_eq_true.1 h i hi

theorem any_of_der {r : Option Nat} {X : Cx} (hX : X.n = n) {Q : Exit → Act → World → Prop} {s' : St} (hQ : ∀ a w, Rel P X s' a w → Q .normal a w) (he : edgesOk ops = true) (hnd : noDef ops = true) :
    ∀ (fuel : Nat) (L : List (Nat × (List Nat × List Nat))) (listed : Array Bool) (s : St) (a : Act) (w : World), L.length = fuel → listed.size = ops.size →
      (∀ i, i ∈ L.map (·.1) ↔ i < ops.size ∧ listed.getD i true = false) → (∀ q o, ops[q]? = some o → listed.getD q false = true → ∀ e ∈ o.after, Region.binds .any e = true → listed.getD e.on false = true) → drawOk ops L = true → Der P n ops L s s' → Rel P X s a w → wpAnyIn (wd r) 0 P .any ops Q fuel listed a w := by
  intro fuel
  induction fuel with
  | zero =>
    intro L listed s a w hl hsz hiff _ _ hd hr
    obtain rfl : L = [] := List.eq_nil_of_length_eq_zero hl
    simp only [Der] at hd
    subst hd
    refine ⟨?_, hQ a w hr⟩
    apply List.eq_nil_iff_forall_not_mem.2
    intro i hi
    obtain ⟨h1, o, ho, _⟩ := (mem_ready.1 hi)
    have : i ∈ ([] : List (Nat × (List Nat × List Nat))).map (·.1) := (hiff i).2 ⟨(Array.getElem?_eq_some_iff.1 ho).1, h1⟩
    simp at this
  | succ fuel ih =>
    intro L listed s a w hl hsz hiff hcl hok hd hr
    constructor
    · intro hnil
      exfalso
      match L, hl with
      | (i, F) :: L', _ =>
        have hi := (hiff i).1 (by simp)
        have : i ∈ Region.ready .any ops listed := by
          rw [mem_ready]
          obtain ⟨o, _, ho, _⟩ := hd
          refine ⟨hi.2, o, ho, fun e hem hb => ?_⟩
          have hlt : e.on < i := by
            simp only [edgesOk, List.all_eq_true, List.mem_range] at he
            have := he i hi.1
            rw [ho] at this
            simp only [Option.map_some, Option.getD_some] at this
            rw [Array.all_eq_true_iff_forall_mem] at this
            have := this e hem
            simp [hb] at this
            exact this
          cases hg : listed.getD e.on true with
          | true =>
            have hlt' : e.on < listed.size := by rw [hsz]; omega
            simpa [Array.getD, hlt'] using hg
          | false =>
            have hin := (hiff e.on).2 ⟨by omega, hg⟩
            simp only [List.map_cons, List.mem_cons, List.mem_map] at hin
            rcases hin with hin | ⟨q, hq, hqe⟩
            · omega
            · simp only [drawOk, Bool.and_eq_true, List.all_eq_true] at hok
              have := (hok.2 q hq).1
              simp at this
              omega
        rw [hnil] at this
        cases this
    · intro i hi
      obtain ⟨hi2, oi, hoi, hi3⟩ := mem_ready.1 hi
      have hi1 := (Array.getElem?_eq_some_iff.1 hoi).1
      have hmem := (hiff i).2 ⟨hi1, hi2⟩
      rw [List.mem_map] at hmem
      obtain ⟨⟨i', F⟩, hq, hqe⟩ := hmem
      dsimp only at hqe
      subst hqe
      obtain ⟨A, B, rfl⟩ := List.append_of_mem hq
      have hah := drawOk_ahead A hok
      have hnc : ∀ p ∈ A, clash p.2 F = false := by
        intro p hp
        cases hc : clash p.2 F with
        | false => rfl
        | true =>
          exfalso
          have h1 := (hah p hp).2 hc
          have h3 := reach_listed hcl 3 i' oi hoi hi3 h1
          have h4 := (hiff p.1).1 (by simp only [List.map_append, List.mem_append, List.mem_map]; exact .inl ⟨p, hp, rfl⟩)
          have h5 : p.1 < listed.size := by rw [hsz]; exact h4.1
          have h6 := h4.2
          simp [Array.getD, h5] at h6 h3
          rw [h6] at h3
          cases h3
      obtain ⟨o, s1, ho, hst, hder⟩ := hd.pull A hnc
      have hst' := fun Q => hst.2 X s a w hX (fun _ _ => rfl) hr Q
      rw [ovr_self hst.1] at hst'
      have hwp : wpOpIn (wd r) 0 P ops Q i' (fun a' w' => Rel P X s1 a' w') a w := wpOpIn_of Q ho (noDef_at hnd ho) hst'
      refine wpOpIn_mono (fun a' w' hr' => ?_) hwp
      have hcl' : ∀ q o, ops[q]? = some o → (listed.setIfInBounds i' true).getD q false = true → ∀ e ∈ o.after, Region.binds .any e = true → (listed.setIfInBounds i' true).getD e.on false = true := by
        have up : ∀ k, listed.getD k false = true → (listed.setIfInBounds i' true).getD k false = true := by
          intro k hk
          simp only [Array.getD_eq_getD_getElem?, Array.getElem?_setIfInBounds] at hk ⊢
          split
          · simp [hsz, hi1]
          · exact hk
        intro q o hq9 hlq e hem hb
        by_cases e0 : q = i'
        · subst e0
          rw [hoi] at hq9
          cases hq9
          exact up _ (hi3 e hem hb)
        · refine up _ (hcl q o hq9 ?_ e hem hb)
          simp only [Array.getD_eq_getD_getElem?] at hlq ⊢
          rw [Array.getElem?_setIfInBounds, if_neg (fun e' => e0 e'.symm)] at hlq
          exact hlq
      refine ih (A ++ B) _ s1 a' w' (by simp at hl ⊢; omega) (by simp [hsz]) (fun j => ?_) hcl' (drawOk_erase A hok) hder hr'
      have hj := hiff j
      have hbi : ∀ p ∈ B, i' < p.1 := by
        have := drawOk_tail A hok
        simp only [drawOk, Bool.and_eq_true, List.all_eq_true] at this
        intro p hp
        have := (this.2 p hp).1
        simpa using this
      have hset : (listed.setIfInBounds i' true).getD j true = if j = i' then true else listed.getD j true := by
        by_cases e : j = i'
        · subst e; simp [Array.getD_eq_getD_getElem?, hsz, hi1]
        · simp only [e, if_false, Array.getD_eq_getD_getElem?]
          rw [Array.getElem?_setIfInBounds, if_neg (fun e' => e e'.symm)]
      rw [hset]
      simp only [List.map_append, List.map_cons, List.mem_append, List.mem_cons, List.mem_map] at hj ⊢
      by_cases e : j = i'
      · subst e
        simp only [if_true, Bool.true_eq_false, and_false, iff_false, not_or]
        refine ⟨?_, ?_⟩
        · rintro ⟨p, hp, hpe⟩; have := (hah p hp).1; omega
        · rintro ⟨p, hp, hpe⟩; have := hbi p hp; omega
      · simp only [e, if_false, false_or] at hj ⊢
        exact hj

/-- A region that draws its order: one derivation in the text's order. -/
theorem wp_draw {r : Option Nat} {X : Cx} (hX : X.n = n) {Q : Exit → Act → World → Prop} {id : Nat} {s s' : St} {a : Act} {w : World} (hm : P.follows .mixedOrders = true) {L : List (Nat × (List Nat × List Nat))}
    (hL : L.map (·.1) = List.range ops.size) (he : edgesOk ops = true) (hnd : noDef ops = true) (hok : drawOk ops L = true) (hd : Der P n ops L s s') (hr : Rel P X s a w)
    (hQ : ∀ a w, Rel P X s' a w → Q .normal a w) : (Code.region id ops true).wpIn (wd r) 0 P Q a w := by
  refine wpIn_region_any hm (any_of_der hX hQ he hnd _ L _ s a _ ?_ (by simp) ?_ (fun q o _ hq => absurd hq (by simp [Array.getD_eq_getD_getElem?, Array.getElem?_replicate]; split <;> simp)) hok hd ?_)
  · have := congrArg List.length hL; simpa using this
  · intro i
    rw [hL, List.mem_range]
    constructor
    · intro h; exact ⟨h, by simp [Array.getD, h]⟩
    · intro h; exact h.1
  · obtain ⟨β, ν, h⟩ := hr
    exact ⟨β, ν, h.move rfl rfl ⟨rfl, Nat.le_succ _⟩ (Nat.le_refl _) (fun _ _ _ => rfl) (fun b hb => ⟨hb, rfl⟩) (Goes.refl _ _ _) (fun o b hl hb => .inl ⟨hl, hb⟩) h.inj
      (fun o _ => .inl ⟨rfl, rfl, rfl, fun _ _ => rfl⟩) (fun t _ => .inl ⟨rfl, rfl⟩) h.keys rfl rfl (fun _ => .inl rfl)⟩

theorem wpOps_of_der {r : Option Nat} {X : Cx} (hX : X.n = n) (hnd : noDef ops = true) {Q : Exit → Act → World → Prop} : ∀ (L : List (Nat × (List Nat × List Nat))) {s s' : St} (a : Act) (w : World), Der P n ops L s s' → Rel P X s a w →
    (∀ a w, Rel P X s' a w → Q .normal a w) → wpOpsIn (wd r) 0 P ops Q (L.map (·.1)) a w
  | [], s, s', a, w, hd, hr, hQ => by simp only [Der] at hd; subst hd; exact hQ a w hr
  | (i, F) :: L, s, s', a, w, hd, hr, hQ => by
    obtain ⟨o, s1, ho, hst, hder⟩ := hd
    rw [List.map_cons, wpOpsIn_cons]
    have hst' := fun Q => hst.2 X s a w hX (fun _ _ => rfl) hr Q
    rw [ovr_self hst.1] at hst'
    have hwp : wpOpIn (wd r) 0 P ops Q i (fun a' w' => Rel P X s1 a' w') a w := wpOpIn_of Q ho (noDef_at hnd ho) hst'
    exact wpOpIn_mono (fun a' w' hr' => wpOps_of_der hX hnd L a' w' hder hr' hQ) hwp

theorem wp_plain {r : Option Nat} {X : Cx} (hX : X.n = n) (hnd : noDef ops = true) {Q : Exit → Act → World → Prop} {id : Nat} {s s' : St} {a : Act} {w : World} {L : List (Nat × (List Nat × List Nat))}
    (hL : L.map (·.1) = List.range ops.size) (hd : Der P n ops L s s') (hr : Rel P X s a w) (hQ : ∀ a w, Rel P X s' a w → Q .normal a w) : (Code.region id ops false).wpIn (wd r) 0 P Q a w := by
  refine wpIn_region ?_
  rw [← hL]
  exact wpOps_of_der hX hnd L a w hd hr hQ

/-- A derivation over the operations themselves, from number i on (what is typed in walks). -/
def DerL (P : Program) (n : Nat) (ops : Array Oper) : Nat → List Oper → List (Nat × (List Nat × List Nat)) → St → (St → Prop) → Prop
  | _, [], L, s, K => L = [] ∧ K s
  | i, o :: l, L, s, K => ∃ F L' s1, L = (i, F) :: L' ∧ LStep P n ops o F s s1 ∧ DerL P n ops (i + 1) l L' s1 K

theorem DerL.der : ∀ (l : List Oper) (i : Nat) {L : List (Nat × (List Nat × List Nat))} {s : St} {K : St → Prop}, (∀ j, l[j]? = ops[i + j]?) → DerL P n ops i l L s K →
    L.map (·.1) = List.range' i l.length ∧ ∃ s', K s' ∧ Der P n ops L s s'
  | [], i, L, s, K, _, h => by obtain ⟨rfl, hk⟩ := h; exact ⟨rfl, s, hk, rfl⟩
  | o :: l, i, L, s, K, hl, h => by
    obtain ⟨F, L', s1, rfl, hst, hd⟩ := h
    obtain ⟨h1, s', hk, h2⟩ := DerL.der l (i + 1) (fun j => by have := hl (j + 1); simpa [Nat.add_assoc, Nat.add_comm 1 j] using this) hd
    refine ⟨by rw [List.map_cons, h1, List.length_cons, List.range'_succ], s', hk, o, s1, by simpa using (hl 0).symm, hst, h2⟩

/-! ### Code -/

def mk (D : Nat) : Deferred := { target := .collected D, args := #[] }

/-- One context goes on as another one: all is as it was, but marks may have come. -/
structure Ext (X X' : Cx) : Prop where
  n : X'.n = X.n
  w0 : X'.w0 = X.w0
  ok0 : X'.ok0 = X.ok0
  bor : X'.bor = X.bor
  av : X'.av = X.av
  kp : ∀ b o, X.kp b = some o → X'.kp b = some o
  defs : ∃ Ds : List Nat, X'.defs = Ds.map mk ++ X.defs ∧ Ds.Nodup ∧ ∀ D ∈ Ds, X.kp D = none ∧ X'.kp D = some (.deferred (some [])) ∧ X.w0.heap.size ≤ D

theorem Ext.refl (X : Cx) : Ext X X := ⟨rfl, rfl, rfl, rfl, rfl, fun _ _ h => h, [], rfl, List.nodup_nil, fun D h => by cases h⟩
theorem Ext.trans {X X' X'' : Cx} (h : Ext X X') (k : Ext X' X'') : Ext X X'' := by
  refine ⟨k.n.trans h.n, k.w0.trans h.w0, k.ok0.trans h.ok0, k.bor.trans h.bor, k.av.trans h.av, fun b o e => k.kp b o (h.kp b o e), ?_⟩
  obtain ⟨Ds, h1, h2, h3⟩ := h.defs
  obtain ⟨Es, k1, k2, k3⟩ := k.defs
  refine ⟨Es ++ Ds, by rw [k1, h1, List.map_append, List.append_assoc], ?_, ?_⟩
  · rw [List.nodup_append]
    refine ⟨k2, h2, fun a ha b hb e => ?_⟩
    subst e
    have := (k3 a ha).1
    rw [(h3 a hb).2.1] at this
    cases this
  · intro D hD
    rcases List.mem_append.1 hD with hD | hD
    · obtain ⟨g1, g2, g3⟩ := k3 D hD
      refine ⟨?_, g2, by rw [h.w0] at g3; exact g3⟩
      cases e : X.kp D with
      | none => rfl
      | some o => rw [h.kp D o e] at g1; cases g1
    · obtain ⟨g1, g2, g3⟩ := h3 D hD
      exact ⟨g1, k.kp _ _ g2, g3⟩

/-- What is so behind code: some context that goes on. -/
def Aft (P : Program) (X : Cx) (Q : Exit → St → Prop) (e : Exit) (a' : Act) (w' : World) : Prop := ∃ s' X', Ext X X' ∧ Q e s' ∧ Rel P X' s' a' w'

/-- How many slots there are, and whether the code stands outside of all rounds. -/
structure Nm where
  n : Nat
  top : Bool

/-- The code c leads from the abstract state s to Q. -/
def AW (P : Program) (m : Nm) (c : Code) (s : St) (Q : Exit → St → Prop) : Prop :=
  ∀ (r : Option Nat) (X : Cx) (a : Act) (w : World), (X.n = m.n ∧ (m.top = true → r = none)) → Rel P X s a w → c.wpIn (wd r) 0 P (Aft P X Q) a w

def thn (K : St → Prop) (Q : Exit → St → Prop) : Exit → St → Prop
  | .normal, s => K s
  | e, s => Q e s

def inB (id : Nat) (Q : Exit → St → Prop) : Exit → St → Prop
  | .exit id', s => bif Nat.beq id' id then Q .normal s else Q (.exit id') s
  | e, s => Q e s

theorem aft_in {X X' : Cx} (hx : Ext X X') {Q : Exit → St → Prop} {e : Exit} {a : Act} {w : World} (h : Aft P X' Q e a w) : Aft P X Q e a w := by
  obtain ⟨s', X2, h1, h2, h3⟩ := h
  exact ⟨s', X2, hx.trans h1, h2, h3⟩

variable {m : Nm}

theorem AW.skip {s : St} {Q : Exit → St → Prop} (h : Q .normal s) : AW P m .skip s Q := fun _ X _ _ _ hr => wpIn_skip ⟨s, X, Ext.refl X, h, hr⟩
theorem AW.ret {s : St} {Q : Exit → St → Prop} (h : Q .ret s) : AW P m .ret s Q := fun _ X _ _ _ hr => wpIn_ret ⟨s, X, Ext.refl X, h, hr⟩
theorem AW.exit {s : St} {Q : Exit → St → Prop} {id : Nat} (h : Q (.exit id) s) : AW P m (.exit id) s Q := fun _ X _ _ _ hr => wpIn_exit ⟨s, X, Ext.refl X, h, hr⟩

theorem AW.seq {x y : Code} {s : St} {Q : Exit → St → Prop} (h : AW P m x s (thn (fun s' => AW P m y s' Q) Q)) : AW P m (.seq x y) s Q := by
  intro r X a w hX hr
  refine wpIn_seq (wpIn_mono (h r X a w hX hr) ?_)
  rintro e a' w' ⟨s', X', hx, hq, hr'⟩
  cases e with
  | normal => exact wpIn_mono (hq r X' a' w' ⟨hx.n.trans hX.1, hX.2⟩ hr') (fun _ _ _ h => aft_in hx h)
  | _ => exact ⟨s', X', hx, hq, hr'⟩

theorem AW.block {id : Nat} {c : Code} {s : St} {Q : Exit → St → Prop} (h : AW P m c s (inB id Q)) : AW P m (.block id c) s Q := by
  intro r X a w hX hr
  refine wpIn_block (wpIn_mono (h r X a w hX hr) ?_)
  rintro e a' w' ⟨s', X', hx, hq, hr'⟩
  cases e with
  | exit id' =>
    simp only [Exit.inBlock]
    by_cases he : id' = id
    · subst he
      simp only [inB, Nat.beq_refl, cond_true] at hq
      simp only [if_true]
      exact ⟨s', X', hx, hq, hr'⟩
    · have : Nat.beq id' id = false := by
        cases hb : Nat.beq id' id
        · rfl
        · exact absurd (Nat.eq_of_beq_eq_true hb) he
      simp only [inB, this, cond_false] at hq
      simp only [he, if_false]
      exact ⟨s', X', hx, hq, hr'⟩
  | _ => exact ⟨s', X', hx, hq, hr'⟩

theorem AW.cond {c : Operand} {x y : Code} {s : St} {Q : Exit → St → Prop} {t : Bool} (hc : ev s c = .val (.bool t)) (ht : t = true → AW P m x s Q) (hf : t = false → AW P m y s Q) : AW P m (.cond c x y) s Q := by
  intro r X a w hX hr
  obtain ⟨β, ν, h⟩ := hr
  have hv := h.eval c
  rw [hc] at hv
  obtain ⟨v, hv1, hv2, hv3⟩ := hv
  have : a.eval c = .bool t := by
    simp only [R] at hv3
    simp only [List.cons.injEq, and_true] at hv1
    subst hv1
    generalize a.eval c = u at *
    cases u <;> simp_all [Value.cells, vAgg, D.isAgg]
  refine wpIn_cond_split this (fun h1 => ht h1 r X a w hX ⟨β, ν, h⟩) (fun h1 => hf h1 r X a w hX ⟨β, ν, h⟩)

theorem AW.region {id : Nat} {l : List Oper} {s : St} {Q : Exit → St → Prop} {L : List (Nat × (List Nat × List Nat))} (h : DerL P m.n l.toArray 0 l L s (Q .normal)) (hnd : noDef l.toArray = true) : AW P m (.region id l.toArray false) s Q := by
  intro r X a w hX hr
  obtain ⟨h1, s', hk, hd⟩ := DerL.der l 0 (by simp) h
  exact wp_plain hX.1 hnd (by rw [h1, List.range_eq_range']; simp) hd hr (fun a w hr' => ⟨s', X, Ext.refl X, hk, hr'⟩)

theorem AW.draw {id : Nat} {l : List Oper} {s : St} {Q : Exit → St → Prop} {L : List (Nat × (List Nat × List Nat))} (hm : P.follows .mixedOrders = true) (h : DerL P m.n l.toArray 0 l L s (Q .normal))
    (he : edgesOk l.toArray = true) (hnd : noDef l.toArray = true) (hok : drawOk l.toArray L = true) : AW P m (.region id l.toArray true) s Q := by
  intro r X a w hX hr
  obtain ⟨h1, s', hk, hd⟩ := DerL.der l 0 (by simp) h
  exact wp_draw hX.1 hm (by rw [h1, List.range_eq_range']; simp) he hnd hok hd hr (fun a w hr' => ⟨s', X, Ext.refl X, hk, hr'⟩)

/-- One state says no more than another. -/
def Le (P : Program) (s s' : St) : Prop := ∀ (X : Cx) (a : Act) (w : World), Rel P X s a w → Rel P X s' a w

theorem AW.weak {c : Code} {s s' : St} {Q : Exit → St → Prop} (hs : Le P s s') (h : AW P m c s' Q) : AW P m c s Q := fun r X a w hX hr => h r X a w hX (hs X a w hr)
theorem AW.mono {c : Code} {s : St} {Q Q' : Exit → St → Prop} (h : AW P m c s Q) (hq : ∀ e s, Q e s → Q' e s) : AW P m c s Q' :=
  fun r X a w hX hr => wpIn_mono (h r X a w hX hr) (fun _ _ _ ⟨s', X', hx, h1, h2⟩ => ⟨s', X', hx, hq _ _ h1, h2⟩)

theorem AW.loop {α : Type} (I : α → Prop) (S : α → St) (μ : α → Nat) {c : Code} {s : St} {Q : Exit → St → Prop} (a0 : α) (h0 : I a0) (hs : Le P s (S a0))
    (round : ∀ x, I x → AW P m c (S x) (thn (fun s' => ∃ y, I y ∧ μ y < μ x ∧ Le P s' (S y)) Q)) : AW P m (.loop c) s Q := by
  intro r X a w hX hr
  refine wpIn_loop_ghost (fun q a w => ∃ x X', Ext X X' ∧ μ x = q ∧ I x ∧ Rel P X' (S x) a w) (μ a0) ⟨a0, X, Ext.refl X, rfl, h0, hs X a w hr⟩ ?_
  rintro q a w ⟨x, X', hx, rfl, hI, hr⟩
  refine wpIn_mono (round x hI r X' a w ⟨hx.n.trans hX.1, hX.2⟩ hr) ?_
  rintro e a' w' ⟨s', X2, hx2, hq, hr'⟩
  cases e with
  | normal =>
    obtain ⟨y, hy, hlt, hle⟩ := hq
    exact ⟨μ y, hlt, y, X2, hx.trans hx2, rfl, hy, hle X2 a' w' hr'⟩
  | _ => exact ⟨s', X2, hx.trans hx2, hq, hr'⟩

end
end Go.Um
