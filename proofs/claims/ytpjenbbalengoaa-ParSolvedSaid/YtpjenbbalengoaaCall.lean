/- Calls by contract; results. No condition. -/
import Derived.Test.YtpjenbbalengoaaBox
namespace Go.Um
open Go Go.RowKit

theorem VR_free {P : Program} {ok : Nat → Prop} {w : World} {s s' : St} {β β' : Nat → Option Nat} {ν ν' : Nat → Value} {x : AV} {vs : List Value} (hm : ment x = []) (h : VR P ok w s β ν x vs) : VR P ok w s' β' ν' x vs :=
  VR_mono' (fun _ hb => ⟨hb, rfl⟩) (Nat.le_refl _) x (fun o ho => by rw [hm] at ho; cases ho) h

/-- A step that makes y, perhaps in new memory; all objects stay. -/
def CStep (P : Program) (o : Oper) (K : List Nat) (s : St) (y : AV) : Prop :=
  ∀ (X : Cx) (t : St) (a : Act) (w : World) (β : Nat → Option Nat) (ν : Nat → Value), (∀ k ∈ K, t k = s k) → RelB P X t a w β ν → ver y = none ∧
    ∀ (Q : Exit → Act → World → Prop) (K' : Act → World → Prop), (∀ v w', RelB P X t a w' β ν → VR P (okAt X t β w') w' t β ν y [v] → K' (a.put o.dst v) w') → o.wp P a w K' Q

theorem PStep.c {P : Program} {o : Oper} {K : List Nat} {s : St} {y : AV} (h : PStep P o K s y) : CStep P o K s y := by
  intro X t a w β ν hk hr
  obtain ⟨h1, v, h2, h3⟩ := h X t a w β ν hk hr
  refine ⟨h1, fun Q K' hK => ?_⟩
  unfold Oper.wp
  rw [h2]
  exact hK v w hr h3

section
variable {P : Program} {n : Nat} {ops : Array Oper} {s : St} {o : Oper}

theorem CStep.step {d : Nat} {K : List Nat} {y : AV} (h : CStep P o K s y) (hd : o.dst = some d) (hg : o.guard = none) (hn : Nat.blt d n = true) (h4 : Nat.blt d 10000 = true) :
    LStep P n ops o (K, [d]) s (upd s d y) := by
  refine ⟨upd_off, fun X t a w hX hk hr Q => ?_⟩
  obtain ⟨β, ν, hr⟩ := hr
  obtain ⟨hy, h2⟩ := h X t a w β ν hk hr
  unfold opWp
  rw [if_pos (by simp [Region.wanted, hg])]
  left
  refine h2 Q _ (fun v w' hr' hv => ?_)
  rw [ovr_one, hd]
  exact ⟨β, ν, hr'.put (by rw [hX]; exact blt_lt hn) (blt_lt h4) hy hv⟩

theorem CStep.guard {d j g : Nat} {want b : Bool} {K : List Nat} {y : AV} (hg : o.guard = some (j, want)) (hj : (ops[j]?).bind (·.dst) = some g) (hb : s g = .val (.bool b))
    (h : (b == want) = true → CStep P o K s y) (hd : o.dst = some d) (hn : Nat.blt d n = true) (h4 : Nat.blt d 10000 = true) (hgn : Nat.blt g n = true) (hg4 : Nat.blt g 10000 = true) :
    LStep P n ops o (g :: K, [d]) s (upd s d (.gv (b == want) y)) := by
  refine ⟨upd_off, fun X t a w hX hk hr Q => ?_⟩
  obtain ⟨β, ν, hr⟩ := hr
  have hgs := hr.slot g (blt_lt hg4)
  rw [hk g (by simp), hb] at hgs
  have hgv := vr_bool hgs
  have hlt : g < a.tmps.size := by rw [hr.tmps, hX]; exact blt_lt hgn
  have hget : a.tmps[g]? = some (.bool b) := by
    rw [Array.getD_eq_getD_getElem?, Array.getElem?_eq_getElem hlt] at hgv
    rw [Array.getElem?_eq_getElem hlt]
    simpa using hgv
  have hyi := yielded_bool (a := a) hj hget
  rw [ovr_one]
  have hdn : d < X.n := by rw [hX]; exact blt_lt hn
  have hd4 : d < 10000 := blt_lt h4
  unfold opWp
  cases hbw : (b == want) with
  | true =>
    obtain ⟨_, h2⟩ := h hbw X t a w β ν (fun k hk' => hk k (by simp [hk'])) hr
    rw [if_pos (by simp only [Region.wanted, hg, hyi]; simpa using hbw)]
    left
    refine h2 Q _ (fun v w' hr' hv => ?_)
    rw [hd]
    exact ⟨β, ν, hr'.put hdn hd4 rfl ⟨v, rfl, fun _ => hv, fun h => by cases h⟩⟩
  | false =>
    rw [if_neg (by simp only [Region.wanted, hg, hyi]; simpa using hbw), hd]
    exact ⟨β, ν, hr.put hdn hd4 rfl ⟨_, rfl, fun h => by (cases h), fun _ => rfl⟩⟩

/-- A guard that is itself guarded. -/
theorem CStep.guard2 {d j g : Nat} {want b g0 : Bool} {K : List Nat} {y : AV} (hg : o.guard = some (j, want)) (hj : (ops[j]?).bind (·.dst) = some g) (hb : s g = .gv g0 (.val (.bool b)))
    (h : g0 = true → (b == want) = true → CStep P o K s y) (hd : o.dst = some d) (hn : Nat.blt d n = true) (h4 : Nat.blt d 10000 = true) (hgn : Nat.blt g n = true) (hg4 : Nat.blt g 10000 = true) :
    LStep P n ops o (g :: K, [d]) s (upd s d (.gv (g0 && (b == want)) y)) := by
  refine ⟨upd_off, fun X t a w hX hk hr Q => ?_⟩
  obtain ⟨β, ν, hr⟩ := hr
  have hgs := hr.slot g (blt_lt hg4)
  rw [hk g (by simp), hb] at hgs
  have hlt : g < a.tmps.size := by rw [hr.tmps, hX]; exact blt_lt hgn
  rw [ovr_one]
  have hdn : d < X.n := by rw [hX]; exact blt_lt hn
  have hd4 : d < 10000 := blt_lt h4
  unfold opWp
  cases g0 with
  | false =>
    obtain ⟨v, e, _, hv⟩ := hgs
    simp only [List.cons.injEq, and_true] at e
    have hy0 : yielded ops a.tmps j = none := by
      have hv' := hv rfl
      rw [← e, Array.getD_eq_getD_getElem?, Array.getElem?_eq_getElem hlt] at hv'
      simp only [Option.getD_some] at hv'
      simp only [yielded, hj, Option.bind_some, Array.getElem?_eq_getElem hlt, hv']
      rfl
    rw [if_neg (by simp only [Region.wanted, hg, hy0]; simp), hd]
    exact ⟨β, ν, hr.put hdn hd4 rfl ⟨_, rfl, fun h => by (cases h), fun _ => rfl⟩⟩
  | true =>
    obtain ⟨v, e, hv, _⟩ := hgs
    simp only [List.cons.injEq, and_true] at e
    subst e
    have hgv := vr_bool (hv rfl)
    have hget : a.tmps[g]? = some (.bool b) := by
      rw [Array.getD_eq_getD_getElem?, Array.getElem?_eq_getElem hlt] at hgv
      rw [Array.getElem?_eq_getElem hlt]
      simpa using hgv
    have hyi := yielded_bool (a := a) hj hget
    cases hbw : (b == want) with
    | true =>
      obtain ⟨_, h2⟩ := h rfl hbw X t a w β ν (fun k hk' => hk k (by simp [hk'])) hr
      rw [if_pos (by simp only [Region.wanted, hg, hyi]; simpa using hbw)]
      left
      refine h2 Q _ (fun v w' hr' hv => ?_)
      rw [hd]
      exact ⟨β, ν, hr'.put hdn hd4 rfl ⟨v, rfl, fun _ => hv, fun h => by cases h⟩⟩
    | false =>
      rw [if_neg (by simp only [Region.wanted, hg, hyi]; simpa using hbw), hd]
      exact ⟨β, ν, hr.put hdn hd4 rfl ⟨_, rfl, fun h => by (cases h), fun _ => rfl⟩⟩

theorem run_callFunc {f : FuncId} (hf : IsFn P f) (args : Array Value) (w : World) : (callFunc f args).run P w = .ok (.enter f args) w := by
  unfold IsFn at hf
  obtain ⟨fn, h1, h2⟩ := Option.map_eq_some_iff.1 hf
  simp only [Prod.mk.injEq] at h2
  have h3 : ¬ fn.name = "runtime.NumGoroutine" := by simpa using h2.1
  have h4 : ¬ fn.body = none := by intro e; rw [e] at h2; simp at h2
  simp [callFunc, h1, h3, h4]

def PArgs (s : St) : List Operand → List AV → Prop
  | [], ys => ys = []
  | x :: xs, ys => ∃ y ys', ys = y :: ys' ∧ Sees (ev s x) y ∧ ment y = [] ∧ PArgs s xs ys'

def kxl : List Operand → List Nat
  | [] => []
  | x :: l => kx x ++ kxl l

theorem RelB.args {X : Cx} {t : St} {a : Act} {w : World} {β : Nat → Option Nat} {ν : Nat → Value} (hr : RelB P X t a w β ν) : ∀ (xs : List Operand) (ys : List AV), (∀ k ∈ kxl xs, t k = s k) → PArgs s xs ys → ArgsR P (okAt X t β w) w ys (xs.map a.eval)
  | [], ys, _, h => by simp only [PArgs] at h; subst h; rfl
  | x :: xs, ys, hk, h => by
    obtain ⟨y, ys', rfl, h1, h2, h3⟩ := h
    exact ⟨a.eval x, xs.map a.eval, rfl, VR_free h2 (hr.sees (fun k hk' => hk k (by simp [kxl, hk'])) h1), RelB.args hr xs ys' (fun k hk' => hk k (by simp [kxl, hk'])) h3⟩

theorem RelB.below {X : Cx} {t : St} {a : Act} {w w' : World} {β : Nat → Option Nat} {ν : Nat → Value} (hr : RelB P X t a w β ν) (hb : Belw w.heap.size w w') : RelB P X t a w' β ν := by
  have hkeep : ∀ b, b < w.heap.size → w'.heap[b]? = w.heap[b]? := hb.block
  refine hr.move hb.os hb.tape ⟨hb.output, hb.drawn⟩ hb.size (fun b h _ => hkeep b (Nat.lt_of_lt_of_le h hr.size)) (fun b h => ⟨⟨h.1, Nat.lt_of_lt_of_le h.2.1 hb.size, h.2.2⟩, hkeep b h.2.1⟩) (Goes.refl _ _ _) (fun o b hl h => .inl ⟨hl, h⟩) hr.inj
    (fun o hl => .inl ⟨rfl, rfl, rfl, fun b h => hkeep b (hr.own o b hl h).2⟩) (fun k _ => .inl ⟨rfl, rfl⟩) hr.keys rfl rfl (fun _ => .inl rfl)

/-- A call of a pure function, by its contract. -/
theorem c_call {f : FuncId} {xs : List Operand} {T : Array TypeId} {ys : List AV} {r : D} (ho : o.op = .call { callee := .value (.func f), args := xs.toArray, argTypes := T }) (hf : IsFn P f) (hx : PArgs s xs ys) (hs : Spec P f ys r) :
    CStep P o (kxl xs) s (.val r) := by
  intro X t a w β ν hk hr
  refine ⟨rfl, fun Q K' hK => ?_⟩
  have hargs := hr.args xs ys hk hx
  have hc := hs w (okAt X t β w) _ (fun b hb => hb.2.1) hargs
  have hrun : (execOp a.eval o).run P w = .ok (.enter f (xs.map a.eval).toArray) w := by
    simp [execOp, ho, resolve, Act.eval, Deferred.ofValue, invoke, run_callFunc hf]
  unfold Oper.wp
  rw [hrun]
  refine hc.mono ?_
  rintro e w' ⟨v, rfl, hv, hbel⟩
  refine hK v w' (hr.below hbel) ⟨v, rfl, RV_mono (fun b hb => ⟨?_, rfl⟩) (Nat.le_refl _) hv⟩
  rcases hb with hb | hb
  · exact ⟨hb.1, Nat.lt_of_lt_of_le hb.2.1 hbel.size, hb.2.2⟩
  · exact ⟨.inr (.inl (Nat.le_trans hr.size hb.1)), hb.2, fun o hl h => by have := (hr.own o b hl h).2; omega⟩
end

/-! ### Results -/

section
variable {P : Program} {s : St}

def runRes (tmps : Array Value) : ResultVar → Sem Value
  | .tmp t => pure (tmps.getD t undef)
  | .cell a t => do loadVar t (← asAddr (tmps.getD a undef))

theorem results_eq (fn : Func) (tmps : Array Value) : results fn tmps = (do let vs ← fn.results.mapM (runRes tmps); pure (if h : vs.size = 1 then vs[0] else .tuple vs)) := by
  unfold results
  congr 1

/-- What one result reads as. -/
def ResOne (P : Program) (s : St) (rv : ResultVar) (d : D) : Prop :=
  ∀ (X : Cx) (a : Act) (w : World) (β : Nat → Option Nat) (ν : Nat → Value), (∀ b, ¬ X.bor b) → RelB P X s a w β ν →
    ∃ v, (runRes a.tmps rv).run P w = .ok v w ∧ RV P d (fun b => (X.ok0 b ∨ X.w0.heap.size ≤ b) ∧ b < w.heap.size) w v

theorem ok_final {X : Cx} {t : St} {β : Nat → Option Nat} {w : World} (hbor : ∀ b, ¬ X.bor b) (b : Nat) (h : okAt X t β w b) : ((X.ok0 b ∨ X.w0.heap.size ≤ b) ∧ b < w.heap.size) ∧ w.heap[b]? = w.heap[b]? :=
  ⟨⟨h.1.elim .inl (fun h' => h'.elim .inr (fun h'' => absurd h'' (hbor b))), h.2.1⟩, rfl⟩

theorem res_tmp {t : Nat} {d : D} (ht : Nat.blt t 10000 = true) (h : Sees (s t) (.val d)) : ResOne P s (.tmp t) d := by
  intro X a w β ν hbor hr
  obtain ⟨v, e, hv⟩ := h _ _ _ _ _ _ _ (hr.slot t (blt_lt ht))
  simp only [List.cons.injEq, and_true] at e
  exact ⟨v, by simp only [runRes, e]; rfl, RV_mono (ok_final hbor) (Nat.le_refl _) hv⟩

theorem res_cell {t T k ob u : Nat} {c : AV} (ht : Nat.blt t 10000 = true) (h : s t = .ref ob u 0) (hb : s ob = .box u c) (hT : IsAgg P T true) (hs : Size P T k) (hc : c.isD = true) (hk : c.len = k) : ResOne P s (.cell t T) (.agg c.toD) := by
  intro X a w β ν hbor hr
  have hx : ev s (.tmp t) = .ref ob u 0 := by simp only [ev, ht, cond_true]; exact h
  obtain ⟨b, cs, ty, h1, h2, h3, h4, h5⟩ := hr.atBox (s := s) (x := .tmp t) (fun _ _ => rfl) (Sees.of hx) hb
  obtain ⟨g1, g2, g3⟩ := VR_toD c hc h5
  have hlc := run_loadCells_list (P := P) w ⟨b, 0, none⟩ cs.toList (fun j v hj => by
    rw [Addr.add_none rfl]
    simp only [World.cell?, h3]
    simpa using hj)
  rw [show cs.toList.length = k by omega] at hlc
  have h1' : a.tmps.getD t undef = .pointer (some ⟨b, 0, none⟩) := h1
  refine ⟨.agg cs, ?_, rfl, R_mono _ (ok_final hbor) (Nat.le_refl _) (by simpa [R, Value.cells] using g1)⟩
  simp only [runRes, h1']
  simp [asAddr, loadVar, run_isAgg hT, run_sizeOf hs, hlc]

theorem res1 {fn : Func} {rv : ResultVar} {d : D} (hf : fn.results = #[rv]) (h : ResOne P s rv d) : Res P fn s d := by
  intro X a w β ν hbor hr
  obtain ⟨v, h1, h2⟩ := h X a w β ν hbor hr
  refine ⟨v, ?_, h2⟩
  rw [results_eq, hf]
  simp [h1]

theorem res2 {fn : Func} {r1 r2 : ResultVar} {d1 d2 : D} (hf : fn.results = #[r1, r2]) (h1 : ResOne P s r1 d1) (h2 : ResOne P s r2 d2) : Res P fn s (.tup (.cons d1 (.cons d2 .nil))) := by
  intro X a w β ν hbor hr
  obtain ⟨v1, h3, h4⟩ := h1 X a w β ν hbor hr
  obtain ⟨v2, h5, h6⟩ := h2 X a w β ν hbor hr
  refine ⟨.tuple #[v1, v2], ?_, rfl, #[v1, v2], rfl, v1, [v2], rfl, h4.1, h4.2, v2, [], rfl, h6.1, h6.2, rfl⟩
  rw [results_eq, hf]
  simp [h3, h5]

theorem res3 {fn : Func} {r1 r2 r3 : ResultVar} {d1 d2 d3 : D} (hf : fn.results = #[r1, r2, r3]) (h1 : ResOne P s r1 d1) (h2 : ResOne P s r2 d2) (h3 : ResOne P s r3 d3) : Res P fn s (.tup (.cons d1 (.cons d2 (.cons d3 .nil)))) := by
  intro X a w β ν hbor hr
  obtain ⟨v1, g1, g2⟩ := h1 X a w β ν hbor hr
  obtain ⟨v2, g3, g4⟩ := h2 X a w β ν hbor hr
  obtain ⟨v3, g5, g6⟩ := h3 X a w β ν hbor hr
  refine ⟨.tuple #[v1, v2, v3], ?_, rfl, #[v1, v2, v3], rfl, v1, [v2, v3], rfl, g2.1, g2.2, v2, [v3], rfl, g4.1, g4.2, v3, [], rfl, g6.1, g6.2, rfl⟩
  rw [results_eq, hf]
  simp [g1, g3, g5]
end
end Go.Um
