/- Maps of a call's own; guards that are known. No condition. -/
import Derived.Test.YtfjafkocejoigaaGreatBB
namespace Go.Um
open Go Go.RowKit

def getL {κ α : Type} [DecidableEq κ] : List (κ × α) → κ → Option α
  | [], _ => none
  | (k, v) :: m, k' => if k' = k then some v else getL m k'
def putL {κ α : Type} [DecidableEq κ] : List (κ × α) → κ → α → List (κ × α)
  | [], k', v' => [(k', v')]
  | (k, v) :: m, k', v' => if k' = k then (k, v') :: m else (k, v) :: putL m k' v'
def fnd {κ α : Type} [DecidableEq κ] (vv : α → Value) : List (κ × α) → κ → Nat → Option (Nat × Value)
  | [], _, _ => none
  | (k, v) :: m, k', i => if k' = k then some (i, vv v) else fnd vv m k' (i + 1)

theorem fnd_get {κ α : Type} [DecidableEq κ] (vv : α → Value) : ∀ (m : List (κ × α)) (k : κ) (i : Nat), (fnd vv m k i).map (·.2) = (getL m k).map vv
  | [], _, _ => rfl
  | (k, v) :: m, k', i => by
    unfold fnd getL
    split
    · rfl
    · exact fnd_get vv m k' (i + 1)
structure MapTy (P : Program) (T K E : TypeId) {κ α : Type} [DecidableEq κ] (kv : κ → Value) (kd : κ → D) (vv : α → Value) (vd : α → D) (z : α) : Prop where
  und : P.underlying T = some (.map K E)
  zero : Zero P E (vv z)
  key : ∀ k ok w v, RV P (kd k) ok w v → v = kv k
  check : ∀ e k w, (Instr.checkKey e 10000 K (kv k)).run P w = .ok () w
  same : ∀ k, Instr.sameBits 10000 (kv k) (kv k) = true
  find : ∀ k (m : List (κ × α)) (es : List MapEntry) w, es.map (fun e => (e.key, e.val)) = m.map (fun p => (kv p.1, vv p.2)) → (Instr.findKey K (kv k) es).run P w = .ok (fnd vv m k 0) w
  val : ∀ a ok w, RV P (vd a) ok w (vv a)
  valr : ∀ a ok w v, RV P (vd a) ok w v → v = vv a
  flat : ∀ a, (vd a).flat = true

section
variable {P : Program} {n : Nat} {ops : Array Oper} {s : St} {o : Oper}
theorem r_makeMap {T d ob : Nat} {κ α : Type} (kv : κ → Value) (vv : α → Value) (ho : o.op = .makeMap T none) (hd : o.dst = some d) (hg : o.guard = none) (hob : Nat.blt 9999 ob = true) (hn : Nat.blt d n = true) (h4 : Nat.blt d 10000 = true) :
    LStep P n ops o (ob :: [], [d, ob]) s (upd (upd s ob (.mp (newVer (s ob)) kv vv [])) d (.row ob (newVer (s ob)))) := by
  refine ⟨off_two, fun X t a w hX hk hr Q => ?_⟩
  obtain ⟨β, ν, hr⟩ := hr
  have hrun : (execOp a.eval o).run P w = .ok (.value (.map (some w.heap.size))) (w.alloc (.map #[] 0)) := by
    simp [execOp, ho, Instr.makeMap]
  refine opWp_run (by simp [Region.wanted, hg]) hrun ?_
  have hob' := blt_lt hob
  have hd4 := blt_lt h4
  rw [ovr_two (by omega), hd]
  have hto : t ob = s ob := hk ob (by simp)
  refine ⟨updF β ob (some w.heap.size), updF ν ob (.map (some w.heap.size)), hr.newObj (Kill.refl t) (by omega) (by rw [hX]; exact blt_lt hn) hd4 rfl rfl ⟨rfl, Nat.le_refl _⟩ (by simp) (fun b hb => .inl (Below.heap_alloc _ _ _ hb)) (fun b hb => .inl ?_) (by rw [hto]; rfl) rfl ?_⟩
  · cases hb; simp
  · intro hok hgo
    refine ⟨⟨w.heap.size, #[], 0, updF_same .., updF_same .., heap_new w _, rfl⟩, ?_⟩
    refine ⟨_, newVer (s ob), rfl, ?_, Nat.le_refl _, fun _ _ => (updF_same ..).symm⟩
    rw [upd_ne _ _ (by omega), upd_same]
    rfl

theorem RelB.atMap {X : Cx} {t : St} {a : Act} {w : World} {β : Nat → Option Nat} {ν : Nat → Value} (hr : RelB P X t a w β ν) {x : Operand} {o1 u : Nat} {κ α : Type} {kv : κ → Value} {vv : α → Value} {m : List (κ × α)} (hk : ∀ k ∈ o1 :: kx x, t k = s k) (hx : Sees (ev s x) (.row o1 u)) (hb : s o1 = .mp u kv vv m) :
    ∃ b es clock, a.eval x = .map (some b) ∧ β o1 = some b ∧ ν o1 = a.eval x ∧ w.heap[b]? = some (.map es clock) ∧ es.toList.map (fun e => (e.key, e.val)) = m.map (fun p => (kv p.1, vv p.2)) := by
  obtain ⟨v, k, e1, h1, h2, h3⟩ := hr.sees (fun k hk' => hk k (by simp [hk'])) hx
  simp only [List.cons.injEq, and_true] at e1
  have hob : t o1 = .mp u kv vv m := by rw [hk o1 (by simp), hb]
  rw [hob] at h1
  simp only [ver, Option.some.injEq] at h1
  have hv := h3 h1 (by rw [hob]; rfl)
  have ho := hr.obj o1
  rw [hob] at ho
  obtain ⟨b, es, cl, g1, g2, g3, g4⟩ := ho
  exact ⟨b, es, cl, by rw [e1, hv, g1], g2, by rw [e1, hv], g3, g4⟩

theorem run_getM {w : World} {r : Nat} {es : Array MapEntry} {clock : Nat} (hb : w.heap[r]? = some (.map es clock)) : (getObj r).run P w = .ok (.map es clock) w := by simp [getObj, Sem.run, hb]
theorem run_setM {w : World} {r : Nat} {es : Array MapEntry} {clock : Nat} (o : Obj) (hb : w.heap[r]? = some (.map es clock)) : (setObj r o).run P w = .ok () { w with heap := w.heap.setIfInBounds r o } := by simp [setObj, Sem.run, hb]
theorem run_underlying {T : TypeId} {d : TypeDesc} (h : P.underlying T = some d) (w : World) : (underlying T).run P w = .ok d w := by
  simp [underlying, h]

theorem run_look {T K E : TypeId} {κ α : Type} [DecidableEq κ] {kv : κ → Value} {kd : κ → D} {vv : α → Value} {vd : α → D} {z : α} (hT : MapTy P T K E kv kd vv vd z) {m : List (κ × α)} {b : Nat} {es : Array MapEntry} {cl : Nat} {w : World} (k : κ) (c : Bool)
    (hh : w.heap[b]? = some (.map es cl)) (hm : es.toList.map (fun e => (e.key, e.val)) = m.map (fun p => (kv p.1, vv p.2))) :
    (Instr.lookup T (.map (some b)) (kv k) c).run P w = .ok (if c then .tuple #[vv ((getL m k).getD z), .bool (getL m k).isSome] else vv ((getL m k).getD z)) w := by
  have hf := hT.find k m es.toList w hm
  have hz := run_zero hT.zero w
  have hg := fnd_get vv m k 0
  have hu := run_underlying hT.und w
  have hc := fun e => hT.check e k w
  unfold Instr.lookup
  cases hfd : fnd vv m k 0 with
  | none =>
    rw [hfd] at hf hg
    have hg' : getL m k = none := by cases h : getL m k <;> simp_all
    cases c <;> simp [hu, run_getM hh, hc, hf, hz, hg']
  | some p =>
    rw [hfd] at hf hg
    obtain ⟨x, h1, h2⟩ : ∃ x, getL m k = some x ∧ vv x = p.2 := by
      cases h : getL m k with
      | none => rw [h] at hg; cases hg
      | some x => rw [h] at hg; exact ⟨x, rfl, by simpa using hg.symm⟩
    cases c <;> simp [hu, run_getM hh, hc, hf, h1, h2]
theorem p_look {x y : Operand} {T K E o1 u : Nat} {κ α : Type} [DecidableEq κ] {kv : κ → Value} {kd : κ → D} {vv : α → Value} {vd : α → D} {z : α} {m : List (κ × α)} {k : κ} (ho : o.op = .lookup T x y false) (hT : MapTy P T K E kv kd vv vd z)
    (hx : Sees (ev s x) (.row o1 u)) (hb : s o1 = .mp u kv vv m) (hy : Sees (ev s y) (.val (kd k))) : PStep P o ((o1 :: kx x) ++ kx y) s (.val (vd ((getL m k).getD z))) := by
  intro X t a w β ν hk hr
  refine ⟨rfl, vv ((getL m k).getD z), ?_, ⟨_, rfl, hT.val _ _ _⟩⟩
  obtain ⟨b, es, cl, e1, _, _, hh, hm⟩ := hr.atMap (kl hk) hx hb
  obtain ⟨v, e2, hv⟩ := hr.sees (kr hk) hy
  simp only [List.cons.injEq, and_true] at e2
  have e3 := hT.key k _ _ _ hv
  have := run_look hT k false hh hm
  simp [execOp, ho, e1, e2, e3, this]

theorem modify_put {κ α : Type} [DecidableEq κ] {kv : κ → Value} {vv : α → Value} (k : κ) (v : α) (key : Value) (hkey : key = kv k) : ∀ (m : List (κ × α)) (es : List MapEntry) (j i : Nat) (x : Value), es.map (fun e => (e.key, e.val)) = m.map (fun p => (kv p.1, vv p.2)) → fnd vv m k j = some (i, x) →
    j ≤ i ∧ i - j < es.length ∧ ((es[i - j]?).map (·.key)) = some (kv k) ∧ (es.modify (i - j) fun e => { e with key := key, val := vv v }).map (fun e => (e.key, e.val)) = (putL m k v).map (fun p => (kv p.1, vv p.2))
  | [], es, j, i, x, _, hf => by cases hf
  | (k0, v0) :: m, [], j, i, x, hm, _ => by cases hm
  | (k0, v0) :: m, e :: es, j, i, x, hm, hf => by
    simp only [List.map_cons, List.cons.injEq, Prod.mk.injEq] at hm
    unfold fnd at hf
    unfold putL
    by_cases e0 : k = k0
    · subst e0
      simp only [if_true, Option.some.injEq, Prod.mk.injEq] at hf ⊢
      obtain ⟨rfl, _⟩ := hf
      simp only [Nat.sub_self]
      refine ⟨Nat.le_refl _, by simp, by simp [hm.1.1], ?_⟩
      simp [hm.2, hkey]
    · simp only [e0, if_false] at hf ⊢
      obtain ⟨h1, h2, h3, h4⟩ := modify_put k v key hkey m es (j + 1) i x hm.2 hf
      have e1 : i - j = (i - (j + 1)) + 1 := by omega
      rw [e1]
      refine ⟨by omega, by simp; omega, by simpa using h3, ?_⟩
      simp only [List.modify_succ_cons, List.map_cons, h4, hm.1.1, hm.1.2]

theorem push_put {κ α : Type} [DecidableEq κ] {kv : κ → Value} {vv : α → Value} (k : κ) (v : α) : ∀ (m : List (κ × α)) (j : Nat), fnd vv m k j = none → (putL m k v).map (fun p => (kv p.1, vv p.2)) = m.map (fun p => (kv p.1, vv p.2)) ++ [(kv k, vv v)]
  | [], j, _ => rfl
  | (k0, v0) :: m, j, hf => by
    unfold fnd at hf
    unfold putL
    by_cases e0 : k = k0
    · simp [e0] at hf
    · simp only [e0, if_false] at hf ⊢
      simp only [List.map_cons, push_put k v m (j + 1) hf, List.cons_append]
theorem RelB.setMap {X : Cx} {t : St} {a : Act} {w w' : World} {β : Nat → Option Nat} {ν : Nat → Value} (hr : RelB P X t a w β ν) {ob u b : Nat} {κ α : Type} {kv : κ → Value} {vv : α → Value} {m m' : List (κ × α)} {es' : Array MapEntry} {cl' : Nat} (h4 : 10000 ≤ ob) (hb : t ob = .mp u kv vv m)
    (hβ : β ob = some b) (hν : ν ob = .map (some b)) (hw : w' = { w with heap := w.heap.setIfInBounds b (.map es' cl') }) (hv : es'.toList.map (fun e => (e.key, e.val)) = m'.map (fun p => (kv p.1, vv p.2))) :
    RelB P X (upd t ob (.mp u kv vv m')) a w' β ν := by
  have hlv : ∀ o, live (upd t ob (.mp u kv vv m') o) = live (t o) ∧ ver (upd t ob (.mp u kv vv m') o) = ver (t o) := by
    intro o
    by_cases e : o = ob
    · subst e; rw [upd_same, hb]; exact ⟨rfl, rfl⟩
    · rw [upd_ne _ _ e]; exact ⟨rfl, rfl⟩
  have hlob : live (t ob) = true := by rw [hb]; rfl
  have hsz : w'.heap.size = w.heap.size := by rw [hw]; simp
  have hoth : ∀ b', b ≠ b' → w'.heap[b']? = w.heap[b']? := fun b' hne => by rw [hw]; simp [Array.getElem?_setIfInBounds, hne]
  have hlt := (hr.own ob b hlob hβ).2
  have hat : w'.heap[b]? = some (.map es' cl') := by rw [hw]; simp [hlt]
  have hgoes : Goes t (upd t ob (.mp u kv vv m')) β β ν ν := fun o k hk => ⟨k, by rw [(hlv o).2]; exact hk, Nat.le_refl _, fun _ hl => ⟨by rw [← (hlv o).1]; exact hl, rfl, rfl⟩⟩
  have hok : ∀ b', okAt X t β w b' → okAt X (upd t ob (.mp u kv vv m')) β w' b' ∧ w'.heap[b']? = w.heap[b']? := by
    intro b' hb'
    refine ⟨⟨hb'.1, by rw [hsz]; exact hb'.2.1, fun o hl => hb'.2.2 o (by rw [← (hlv o).1]; exact hl)⟩, ?_⟩
    exact hoth b' (fun e => hb'.2.2 ob hlob (by rw [hβ, e]))
  refine hr.move (by rw [hw]) (by rw [hw]) ⟨by rw [hw], by rw [hw]; exact Nat.le_refl _⟩ (by rw [hsz]; exact Nat.le_refl _) ?_ hok hgoes ?_ ?_ ?_ ?_ ?_ rfl rfl (fun hv => .inl (upd_ne _ _ (by intro e; rw [e, upd_same] at hv; cases hv)))
  · intro b' hb' hn
    refine hoth b' (fun e => ?_)
    subst e
    rcases (hr.own ob b hlob hβ).1 with h | h
    · omega
    · exact hn h
  · intro o b' hl hb'; exact .inl ⟨by rw [← (hlv o).1]; exact hl, hb'⟩
  · intro o o' b' hl hl' hb1 hb2
    exact hr.inj o o' b' (by rw [← (hlv o).1]; exact hl) (by rw [← (hlv o').1]; exact hl') hb1 hb2
  · intro o hl
    by_cases e : o = ob
    · subst e
      right
      rw [upd_same]
      exact ⟨b, es', cl', hν, hβ, hat, hv⟩
    · left
      refine ⟨upd_ne _ _ e, rfl, rfl, fun b' hb' => hoth b' (fun e' => e ?_)⟩
      subst e'
      exact hr.inj o ob b (by rw [← (hlv o).1]; exact hl) hlob hb' hβ
  · intro k hk
    left
    exact ⟨upd_ne _ _ (by omega), rfl⟩
  · intro k hk
    rw [(hlv k).2]
    exact hr.keys k hk
theorem r_mapPut {x y q : Operand} {T K E o1 u : Nat} {κ α : Type} [DecidableEq κ] {kv : κ → Value} {kd : κ → D} {vv : α → Value} {vd : α → D} {z : α} {m : List (κ × α)} {k : κ} {v : α} (ho : o.op = .mapUpdate T x y q) (hT : MapTy P T K E kv kd vv vd z)
    (hd : o.dst = none) (hg : o.guard = none) (hob : Nat.blt 9999 o1 = true) (hx : Sees (ev s x) (.row o1 u)) (hb : s o1 = .mp u kv vv m) (hy : Sees (ev s y) (.val (kd k))) (hq : Sees (ev s q) (.val (vd v))) :
    LStep P n ops o ((o1 :: kx x) ++ (kx y ++ kx q), [o1]) s (upd s o1 (.mp u kv vv (putL m k v))) := by
  refine ⟨upd_off, fun X t a w hX hk hr Q => ?_⟩
  obtain ⟨β, ν, hr⟩ := hr
  obtain ⟨b, es, cl, e1, hβ, hν, hh, hm⟩ := hr.atMap (kl hk) hx hb
  obtain ⟨v1, e2, hv⟩ := hr.sees (fun k hk' => kr hk k (by simp [hk'])) hy
  obtain ⟨v2, e4, hv2⟩ := hr.sees (fun k hk' => kr hk k (by simp [hk'])) hq
  simp only [List.cons.injEq, and_true] at e2 e4
  have e3 := hT.key k _ _ _ hv
  have e5 := hT.valr v _ _ _ hv2
  have hlob : live (t o1) = true := by rw [hk o1 (by simp), hb]; rfl
  have hlt := (hr.own o1 b hlob hβ).2
  have hf := hT.find k m es.toList w hm
  have hu := run_underlying hT.und w
  have hc := fun e => hT.check e k w
  have hob' := blt_lt hob
  have hput : ∃ es' cl', (execOp a.eval o).run P w = .ok .skip { w with heap := w.heap.setIfInBounds b (.map es' cl') } ∧ es'.toList.map (fun e => (e.key, e.val)) = (putL m k v).map (fun p => (kv p.1, vv p.2)) := by
    cases hfd : fnd vv m k 0 with
    | none =>
      rw [hfd] at hf
      refine ⟨es.push { key := kv k, val := vv v, born := cl }, cl + 1, ?_, ?_⟩
      · simp [execOp, ho, Instr.mapUpdate, e1, e2, e3, e4, e5, hu, run_getM hh, hc, hf, run_setM _ hh]
      · rw [push_put k v m 0 hfd, ← hm]; simp
    | some p =>
      obtain ⟨i, x0⟩ := p
      rw [hfd] at hf
      obtain ⟨_, h2, h3, h4⟩ := modify_put (vv := vv) k v (kv k) rfl m es.toList 0 i x0 hm hfd
      simp only [Nat.sub_zero] at h2 h3 h4
      refine ⟨es.modify i fun e => { e with key := kv k, val := vv v }, cl, ?_, ?_⟩
      · have hk' : ((es[i]?).map (·.key)).getD (kv k) = kv k := by
          have : (es[i]?).map (·.key) = some (kv k) := by simpa using h3
          rw [this]; rfl
        have hkt : (Instr.keyThatStays (kv k) (kv k)).run P w = .ok (kv k) w := by simp [Instr.keyThatStays, hT.same k]
        simp [execOp, ho, Instr.mapUpdate, e1, e2, e3, e4, e5, hu, run_getM hh, hc, hf, run_setM _ hh, hk', hkt]
      · rw [← h4]; simp
  obtain ⟨es', cl', hrun, hes⟩ := hput
  refine opWp_skip (by simp [Region.wanted, hg]) hd hrun ?_
  rw [ovr_one]
  exact ⟨β, ν, hr.setMap (by omega) (by rw [hk o1 (by simp), hb]) hβ (by rw [hν, e1]) rfl hes⟩
theorem yield_of {X : Cx} {t : St} {a : Act} {w : World} {β : Nat → Option Nat} {ν : Nat → Value} (hr : RelB P X t a w β ν) {j g : Nat} {b : Bool} (hX : X.n = n) (hj : (ops[j]?).bind (·.dst) = some g) (hgn : Nat.blt g n = true) (hg4 : Nat.blt g 10000 = true) (hb : t g = .val (.bool b)) : yielded ops a.tmps j = some b := by
  have hs := hr.slot g (blt_lt hg4)
  rw [hb] at hs
  have hv := vr_bool hs
  have hlt : g < a.tmps.size := by rw [hr.tmps, hX]; exact blt_lt hgn
  refine yielded_bool hj ?_
  rw [Array.getElem?_eq_getElem hlt]
  rw [Array.getD_eq_getD_getElem?, Array.getElem?_eq_getElem hlt] at hv
  simpa using hv

theorem LStep.gtrue {F : List Nat × List Nat} {s' : St} {j g : Nat} {want b : Bool} (hg : o.guard = some (j, want)) (hj : (ops[j]?).bind (·.dst) = some g) (hb : s g = .val (.bool b)) (hgn : Nat.blt g n = true) (hg4 : Nat.blt g 10000 = true)
    (hw : b = want) (h : LStep P n ops { o with guard := none } F s s') : LStep P n ops o (g :: F.1, F.2) s s' := by
  refine ⟨h.1, fun X t a w hX hk hr Q => ?_⟩
  have h1 := h.2 X t a w hX (fun k hk' => hk k (by simp [hk'])) hr Q
  obtain ⟨β, ν, hr⟩ := hr
  have hy := yield_of (ops := ops) hr hX hj hgn hg4 (by rw [hk g (by simp), hb])
  have hwn : Region.wanted o (yielded ops a.tmps) = true := by simp [Region.wanted, hg, hy, hw]
  unfold opWp at h1 ⊢
  rw [hwn, if_pos rfl]
  simp only [Region.wanted, if_true] at h1
  exact h1

theorem LStep.gfalse {d j g : Nat} {want b : Bool} (hg : o.guard = some (j, want)) (hj : (ops[j]?).bind (·.dst) = some g) (hb : s g = .val (.bool b)) (hgn : Nat.blt g n = true) (hg4 : Nat.blt g 10000 = true)
    (hw : b = !want) (hd : o.dst = some d) (hn : Nat.blt d n = true) (h4 : Nat.blt d 10000 = true) : LStep P n ops o ([g], [d]) s (upd s d .any) := by
  refine ⟨upd_off, fun X t a w hX hk hr Q => ?_⟩
  obtain ⟨β, ν, hr⟩ := hr
  have hy := yield_of (ops := ops) hr hX hj hgn hg4 (by rw [hk g (by simp), hb])
  have hwn : Region.wanted o (yielded ops a.tmps) = false := by subst hw; cases want <;> simp [Region.wanted, hg, hy]
  unfold opWp
  rw [hwn, ovr_one, hd]
  simp only [Bool.false_eq_true, if_false]
  exact ⟨β, ν, hr.put (by rw [hX]; exact blt_lt hn) (blt_lt h4) rfl ⟨_, rfl⟩⟩

end
section
variable {P : Program}
abbrev vInt (a : Int) : Value := .int .i64 a
abbrev vCho (p : Int × Int × Int) : Value := .agg #[.int .i64 p.1, .int .i64 p.2.1, .int .i64 p.2.2]

theorem fnd_now {κ α : Type} [DecidableEq κ] {kv : κ → Value} {vv : α → Value} {d : TypeDesc} (k : κ) (heq : ∀ k', Instr.sameNow d (kv k) (kv k') = some (decide (k = k'))) : ∀ (m : List (κ × α)) (es : List MapEntry) (i : Nat), es.map (fun e => (e.key, e.val)) = m.map (fun p => (kv p.1, vv p.2)) →
    Instr.findNow d (kv k) es i = some (fnd vv m k i)
  | [], [], i, _ => rfl
  | [], e :: es, i, h => by cases h
  | (k0, v0) :: m, [], i, h => by cases h
  | (k0, v0) :: m, e :: es, i, h => by
    simp only [List.map_cons, List.cons.injEq, Prod.mk.injEq] at h
    have h1 := heq k0
    have ih := fnd_now k heq m es (i + 1) h.2
    unfold Instr.findNow fnd
    rw [h.1.1, h1]
    by_cases e0 : k = k0
    · simp [e0, h.1.2]
    · simp [e0, ih]

theorem val_bool {ok : Nat → Prop} {w : World} (a : Bool) : RV P (.bool a) ok w (.bool a) := ⟨rfl, rfl⟩
theorem valr_bool {ok : Nat → Prop} {w : World} (a : Bool) (v : Value) (h : RV P (.bool a) ok w v) : v = .bool a := vr_bool (s := fun _ => .any) (β := fun _ => none) (ν := fun _ => undef) ⟨v, rfl, h⟩
theorem valr_int {ok : Nat → Prop} {w : World} (a : Int) (v : Value) (h : RV P (.int .i64 a) ok w v) : v = vInt a := vr_int (s := fun _ => .any) (β := fun _ => none) (ν := fun _ => undef) ⟨v, rfl, h⟩
theorem mapTy_int {T K E : TypeId} {α : Type} {vv : α → Value} {vd : α → D} {z : α} (hu : P.underlying T = some (.map K E)) (hE : P.underlying K = some (.int .i64)) (hz : Zero P E (vv z)) (h1 : ∀ a ok w, RV P (vd a) ok w (vv a)) (h2 : ∀ a ok w v, RV P (vd a) ok w v → v = vv a) (h3 : ∀ a, (vd a).flat = true) : MapTy P T K E vInt di vv vd z where
  und := hu
  zero := hz
  key := fun k ok w v h => valr_int k v h
  check := fun e k w => by unfold Instr.checkKey; simp [run_underlying hE]
  same := fun k => by
    show Instr.sameBits (9999 + 1) (vInt k) (vInt k) = true
    simp [Instr.sameBits]
  find := fun k m es w h => by
    have := fnd_now (d := .int .i64) (kv := vInt) (vv := vv) k (fun k' => by simp only [Instr.sameNow, if_true]; rfl) m es 0 h
    unfold Instr.findKey
    simp [run_underlying hE, this]
  val := h1
  valr := h2
  flat := h3

end
end Go.Um

/- Structs that hold maps; receivers; strings of bytes. No condition. -/

namespace Go.Um
open Go Go.RowKit
abbrev dby (n : Int) : D := .int .u8 n
abbrev bytes (l : List Int) : D := .list 1 dby 0 l

section
variable {P : Program} {n : Nat} {ops : Array Oper} {s : St} {o : Oper}

theorem p_nilRef {x : Operand} {ob u off : Nat} {c : AV} (ho : o.op = .nilCheck x) (hx : Sees (ev s x) (.ref ob u off)) (hb : s ob = .box u c) : PStep P o (ob :: kx x) s (.ref ob u off) := by
  intro X t a w β ν hk hr
  obtain ⟨b, cs, ty, h1, h2, h3, h4, h5⟩ := hr.atBox hk hx hb
  have hob : t ob = .box u c := by rw [hk ob (by simp), hb]
  exact ⟨rfl, .pointer (some ⟨b, off, none⟩), by simp [execOp, ho, h1], ⟨_, u, rfl, by rw [hob]; rfl, Nat.le_refl _, fun _ _ => ⟨b, h2, rfl⟩⟩⟩
theorem p_nilPtr {x : Operand} {d : D} (ho : o.op = .nilCheck x) (hx : Sees (ev s x) (.ptr d)) : PStep P o (kx x) s (.ptr d) := by
  intro X t a w β ν hk hr
  have hv := hr.sees hk hx
  obtain ⟨p, cs, e, h⟩ := hv
  simp only [List.cons.injEq, and_true] at e
  exact ⟨rfl, .pointer (some p), by simp [execOp, ho, e], ⟨p, cs, rfl, h⟩⟩
def OneAt (P : Program) (s : St) (K : List Nat) (y : AV) : Prop := ∀ (X : Cx) (t : St) (a : Act) (w : World) (β : Nat → Option Nat) (ν : Nat → Value) (v : Value), (∀ k ∈ K, t k = s k) → RelB P X t a w β ν → VR P (okAt X t β w) w t β ν y [v] → v.oneCell' = true
theorem oneAt_val {d : D} (h : d.one = true) : OneAt P s [] (.val d) := fun _ _ _ _ _ _ _ _ _ hv => oneCell_of_VR h hv
theorem oneAt_map {o1 u : Nat} {κ α : Type} {kv : κ → Value} {vv : α → Value} {m : List (κ × α)} (hb : s o1 = .mp u kv vv m) : OneAt P s [o1] (.row o1 u) := by
  intro X t a w β ν v hk hr hv
  obtain ⟨q, k, e, h1, h2, h3⟩ := hv
  simp only [List.cons.injEq, and_true] at e
  have hob : t o1 = .mp u kv vv m := by rw [hk o1 (by simp), hb]
  rw [hob] at h1
  simp only [ver, Option.some.injEq] at h1
  have hq := h3 h1 (by rw [hob]; rfl)
  have ho := hr.obj o1
  rw [hob] at ho
  obtain ⟨b, es, cl, g1, _⟩ := ho
  rw [e, hq, g1]
  rfl
def PartsV (P : Program) (s : St) (ps : List (Nat × Nat)) : List (Nat × Operand) → List Nat → List (Nat × AV) → Prop
  | [], K, ys => K = [] ∧ ys = []
  | (i, x) :: l, K, ys => ∃ off y K1 K2 ys', K = K1 ++ (kx x ++ K2) ∧ ys = (off, y) :: ys' ∧ ps[i]? = some (off, 1) ∧ Sees (ev s x) y ∧ OneAt P s K1 y ∧ PartsV P s ps l K2 ys'
def AV.setAll (c : AV) : List (Nat × AV) → AV
  | [] => c
  | (i, y) :: l => AV.setAll (c.set i y) l
theorem AV.set_len : ∀ (c : AV) (i : Nat) (x : AV), (c.set i x).len = c.len
  | .ccons a b, 0, x => rfl
  | .ccons a b, i + 1, x => by simp [AV.set, AV.len, AV.set_len b i x]
  | .cnil, _, _ => by simp [AV.set]
  | .any, _, _ => by simp [AV.set]
  | .both .., _, _ => by simp [AV.set]
  | .val .., _, _ => by simp [AV.set]
  | .emp, _, _ => by simp [AV.set]
  | .ptr .., _, _ => by simp [AV.set]
  | .ref .., _, _ => by simp [AV.set]
  | .elt .., _, _ => by simp [AV.set]
  | .sub .., _, _ => by simp [AV.set]
  | .etl .., _, _ => by simp [AV.set]
  | .bsl .., _, _ => by simp [AV.set]
  | .row .., _, _ => by simp [AV.set]
  | .clo .., _, _ => by simp [AV.set]
  | .sv .., _, _ => by simp [AV.set]
  | .gv .., _, _ => by simp [AV.set]
  | .dead .., _, _ => by simp [AV.set]
  | .box .., _, _ => by simp [AV.set]
  | .arr .., _, _ => by simp [AV.set]
  | .mp .., _, _ => by simp [AV.set]
  | .tl .., _, _ => by simp [AV.set]

theorem fill_partsV {X : Cx} {t : St} {a : Act} {w : World} {β : Nat → Option Nat} {ν : Nat → Value} (hr : RelB P X t a w β ν) {ps : List (Nat × Nat)} : ∀ (l : List (Nat × Operand)) (K : List Nat) (ys : List (Nat × AV)) (c : AV) (cells : Array Value),
    (∀ k ∈ K, t k = s k) → PartsV P s ps l K ys → (∀ p ∈ ys, p.1 < c.len) → c.len ≤ cells.size → (∀ q ∈ cells.toList, q.oneCell' = true) → VR P (okAt X t β w) w t β ν c cells.toList →
    ∃ cells' : Array Value, Instr.fill (ps.toArray[·]?) cells (l.map fun p => (p.1, a.eval p.2)) = some cells' ∧ (∀ q ∈ cells'.toList, q.oneCell' = true) ∧ VR P (okAt X t β w) w t β ν (c.setAll ys) cells'.toList
  | [], K, ys, c, cells, _, hp, _, _, h1, hR => by obtain ⟨_, rfl⟩ := hp; exact ⟨cells, rfl, h1, hR⟩
  | (i, x) :: l, K, ys, c, cells, hk, hp, hlt, hlen, h1, hR => by
    obtain ⟨off, y, K1, K2, ys', rfl, rfl, g1, g2, g3, g4⟩ := hp
    have hv := hr.sees (fun k hk' => hk k (by simp [hk'])) g2
    have hone := g3 X t a w β ν _ (fun k hk' => hk k (by simp [hk'])) hr hv
    have hcl : (a.eval x).cells = #[a.eval x] := by
      generalize a.eval x = q at hone
      cases q <;> simp_all [Value.cells, Value.oneCell']
    have ho : off < c.len := hlt (off, y) (by simp)
    obtain ⟨cells', q1, q2, q3⟩ := fill_partsV hr l K2 ys' (c.set off y) (cells.setIfInBounds off (a.eval x)) (fun k hk' => hk k (by simp [hk'])) g4
      (fun p hp' => by rw [AV.set_len]; exact hlt p (by simp [hp'])) (by rw [AV.set_len]; simpa using hlen) (fun q hq => by
        have hq' : q ∈ cells.toList.set off (a.eval x) := by simpa using hq
        rcases List.mem_or_eq_of_mem_set hq' with h | h
        · exact h1 q h
        · rw [h]; exact hone) (by simpa using VR_set c off y _ hR ho hv)
    refine ⟨cells', ?_, q2, q3⟩
    have hps : ps.toArray[i]? = some (off, 1) := by simpa using g1
    simp only [List.map_cons, Instr.fill, hps, hcl]
    have : ¬ cells.size < off + 1 := by omega
    simpa [this] using q1

theorem p_buildV {T : TypeId} {l : List (Nat × Operand)} {z : Value} {ps : List (Nat × Nat)} {K : List Nat} {ys : List (Nat × AV)} (ho : o.op = .build T l.toArray) (hp : Places P T ps) (hz : Zero P T z) (hz1 : z.cells.toList.all (·.oneCell') = true) (hzl : Nat.ble (zChain z.cells.toList).len z.cells.size = true)
    (hl : PartsV P s ps l K ys) (hlt : ys.all (fun p => Nat.blt p.1 (zChain z.cells.toList).len) = true) : PStep P o K s (.sv ((zChain z.cells.toList).setAll ys)) := by
  intro X t a w β ν hk hr
  obtain ⟨cells', g1, g2, g3⟩ := fill_partsV hr l K ys (zChain z.cells.toList) z.cells hk hl (fun p hp' => blt_lt (List.all_eq_true.1 hlt p hp')) (Nat.le_of_ble_eq_true hzl) (fun q hq => List.all_eq_true.1 hz1 q hq) (zChain_ok _)
  refine ⟨rfl, .agg cells', ?_, ⟨cells', rfl, g2, g3⟩⟩
  have hb : P.built T (l.toArray.map fun p => (p.1, a.eval p.2)).toList = some cells' := by
    unfold Places at hp
    unfold Zero at hz
    obtain ⟨d, q1, q2⟩ := Option.bind_eq_some_iff.1 hp
    obtain ⟨i, q3, q4⟩ := Option.bind_eq_some_iff.1 hz
    cases d <;> simp at q2
    unfold Program.built
    simp only [q1, q3, q4, q2]
    simpa using g1
  have := run_build (P := P) w T (l.toArray.map fun p => (p.1, a.eval p.2)) cells' hb
  simp [execOp, ho]
  simp at this
  rw [this]
  rfl
end
end Go.Um

/- A struct with objects in its cells is stored into a variable. No condition. -/

namespace Go.Um
open Go Go.RowKit
section
variable {P : Program} {n : Nat} {ops : Array Oper} {s : St} {o : Oper}
theorem VR_len {ok : Nat → Prop} {w : World} {t : St} {β : Nat → Option Nat} {ν : Nat → Value} : ∀ (c : AV) (cs : List Value), c.chain = true → VR P ok w t β ν c cs → cs.length = c.len := by
  intro c
  induction c with
  | cnil => intro cs _ h; simp only [VR] at h; subst h; rfl
  | ccons a b iha ihb => intro cs h1 h; obtain ⟨v, vs, rfl, _, h2⟩ := h; simp [AV.len, ihb vs h1 h2]
  | _ => intro cs h1 _; cases h1
theorem r_storeV {x y : Operand} {T k ob u : Nat} {c e : AV} (ho : o.op = .store T x y) (hs : Size P T k) (hd : o.dst = none) (hg : o.guard = none) (hob : Nat.blt 9999 ob = true) (hx : Sees (ev s x) (.ref ob u 0)) (hb : s ob = .box u c) (hy : Sees (ev s y) (.sv e))
    (hl : e.len = k) (hl' : c.len = k) (hch : c.chain = true) (hche : e.chain = true) :
    LStep P n ops o ((ob :: kx x) ++ kx y, [ob]) s (upd s ob (.box u e)) := by
  refine ⟨upd_off, fun X t a w hX hk hr Q => ?_⟩
  obtain ⟨β, ν, hr⟩ := hr
  obtain ⟨b, cs, ty, g1, g2, g3, g4, g5⟩ := hr.atBox (kl hk) hx hb
  obtain ⟨q, e1, r2, r1⟩ := hr.sees (kr hk) hy
  simp only [List.cons.injEq, and_true] at e1
  have hlen : cs.size = k := by
    have := VR_len c cs.toList hch g5
    simp at this
    omega
  have hsz : q.size = k := by
    have := VR_len e q.toList hche r1
    simp at this
    omega
  have hcl : (a.eval y).cells = q := by rw [e1]; rfl
  have hrun : (execOp a.eval o).run P w = .ok .skip (w.setRow b q) := by
    have hst := run_storeCells_at (P := P) b 0 ty q.toList 0 cs w g3 (by simp; omega) r2
    have e : (cs.toList.take (0 + 0) ++ q.toList ++ cs.toList.drop (0 + 0 + q.toList.length)).toArray = q := by
      rw [List.drop_of_length_le (by simp; omega)]
      simp
    rw [e] at hst
    simp [execOp, ho, Instr.storeAt, g1, Instr.sureAddr, storeVar, run_sizeOf hs, hcl, hsz, hst]
  refine opWp_skip (by simp [Region.wanted, hg]) hd hrun ?_
  rw [ovr_one]
  have hob' := blt_lt hob
  exact ⟨β, ν, hr.setBox (by omega) (by rw [hk ob (by simp), hb]) g2 g3 r2 r1⟩
end
end Go.Um

/- Contracts of functions that change or make objects of their caller, and tell a value that names some. No condition. -/

namespace Go.Um
open Go Go.RowKit
def SpecV (P : Program) (f : FuncId) (args : List AV) (S0 : List (Nat × AV)) (r : AV) (S1 : List (Nat × AV)) : Prop :=
  ∀ (X : Cx) (a : Act) (β : Nat → Option Nat) (ν : Nat → Value) (vs : List Value), RelB P X (ofL (withA S0 S0)) a X.w0 β ν → ArgsV P (okAt X (ofL (withA S0 S0)) β X.w0) X.w0 (ofL (withA S0 S0)) β ν args vs →
    Calls P f vs.toArray X.w0 (fun e w' => ∃ v β' ν', e = .returned v ∧ RelB P X (ofL (withA S0 S1)) a w' β' ν' ∧ VR P (okAt X (ofL (withA S0 S1)) β' w') w' (ofL (withA S0 S1)) β' ν' r [v])

def ResV (P : Program) (fn : Func) (s : St) (r : AV) : Prop :=
  ∀ (X : Cx) (a : Act) (w : World) (β : Nat → Option Nat) (ν : Nat → Value), RelB P X s a w β ν → ∃ v, (results fn a.tmps).run P w = .ok v w ∧ VR P (okAt X s β w) w s β ν r [v]

def EndsV (P : Program) (fn : Func) (S0 : List (Nat × AV)) (r : AV) (S1 : List (Nat × AV)) (e : Exit) (s : St) : Prop := (e = .ret ∨ e = .normal) ∧ ResV P fn s r ∧ allEq s (withA S0 S1) ∧ closedL (withA S0 S1) = true

theorem specV_of' {P : Program} {f : FuncId} {fn : Func} {c : Code} {args : List AV} {S0 S1 : List (Nat × AV)} {r : AV} (hf : P.funcs[f]? = some fn) (hb : fn.body = some c) {n : Nat} (hn : fn.ntmps = n) (hl : Nat.blt args.length (n + 1) = true) (hk : (keysL S0).all (Nat.blt 9999) = true) (hk1 : (keysL S1).all (Nat.blt 9999) = true) (hno : (keysL S1).all (fun k => !Nat.beq k 29999) = true)
    (hm : (ment r).all (fun o => (keysL S1).contains o) = true) (h : AWs P ⟨n, true⟩ [c] (initB args (withA S0 S0)) (EndsV P fn S0 r S1)) : SpecV P f args S0 r S1 := by
  intro X a β ν vs hr hargs
  have hlen := ArgsV_len hargs
  have hl' := blt_lt hl
  let X2 : Cx := { n := n, w0 := X.w0, ok0 := X.ok0, bor := X.bor, av := X.av, kp := X.kp, defs := [], hok := X.hok }
  have hsm : ∀ t, t < 10000 → ofL (withA S0 S0) t = .any := by
    intro t ht
    apply ofL_off
    simp only [withA, keysL, List.map_cons, List.mem_cons, not_or]
    refine ⟨by omega, fun hm => ?_⟩
    have := blt_lt (List.all_eq_true.1 hk t hm)
    omega
  have hbig : ∀ t, ¬ t < 10000 → initB args (withA S0 S0) t = ofL (withA S0 S0) t := by
    intro t ht
    have : Nat.blt t 10000 = false := by
      cases hb : Nat.blt t 10000
      · rfl
      · exact absurd (blt_lt hb) ht
    simp only [initB, this, cond_false]
  have hlit : ∀ t, t < 10000 → initB args (withA S0 S0) t = initS args t := by
    intro t ht
    have : Nat.blt t 10000 = true := by simp [Nat.blt]; omega
    simp only [initB, this, cond_true]
  have hver : ∀ t, t < 10000 → ver (initB args (withA S0 S0) t) = none := fun t ht => by rw [hlit t ht]; exact VR_ver (ArgsV_get hargs t)
  have hvl : ∀ o, ver (initB args (withA S0 S0) o) = ver (ofL (withA S0 S0) o) ∧ live (initB args (withA S0 S0) o) = live (ofL (withA S0 S0) o) := by
    intro o
    by_cases ho : o < 10000
    · rw [hsm o ho]; exact ⟨hver o ho, live_ver (hver o ho)⟩
    · rw [hbig o ho]; exact ⟨rfl, rfl⟩
  have hok : ∀ b, okAt X (ofL (withA S0 S0)) β X.w0 b → okAt X2 (initB args (withA S0 S0)) β X.w0 b ∧ X.w0.heap[b]? = X.w0.heap[b]? := fun b hb' => ⟨⟨hb'.1, hb'.2.1, fun o hl => hb'.2.2 o (by rw [← (hvl o).2]; exact hl)⟩, rfl⟩
  have hgoes : Goes (ofL (withA S0 S0)) (initB args (withA S0 S0)) β β ν ν := fun o k hk' => ⟨k, by rw [(hvl o).1]; exact hk', Nat.le_refl _, fun _ hl => ⟨by rw [← (hvl o).2]; exact hl, rfl, rfl⟩⟩
  have hg : ∀ t, (vs.toArray ++ Array.replicate (fn.ntmps - vs.toArray.size) undef).getD t undef = vs.getD t undef := by
    intro t
    simp only [Array.getD_eq_getD_getElem?, List.getD_eq_getElem?_getD, Array.getElem?_append, List.getElem?_toArray, List.size_toArray]
    split
    · rfl
    · rename_i hlt
      rw [List.getElem?_eq_none (by omega : vs.length ≤ t)]
      simp only [Array.getElem?_replicate]
      split <;> rfl
  have hr2 : Rel P X2 (initB args (withA S0 S0)) { tmps := vs.toArray ++ Array.replicate (fn.ntmps - vs.toArray.size) undef, defers := [] } X.w0 := by
    refine ⟨β, ν, ?_⟩
    exact {
      os := rfl, tape := rfl, output := rfl, drawn := Nat.le_refl _, size := Nat.le_refl _, frame := fun _ _ _ => rfl
      kept := fun b o hb => ⟨(hok b (hr.kept b o hb).1).1, (hr.kept b o hb).2⟩
      own := fun o b hl hb' => hr.own o b (by rw [← (hvl o).2]; exact hl) hb'
      inj := fun o o' b hl hl' => hr.inj o o' b (by rw [← (hvl o).2]; exact hl) (by rw [← (hvl o').2]; exact hl')
      obj := fun o => by
        by_cases ho : o < 10000
        · exact OR_dead (live_ver (hver o ho))
        · rw [hbig o ho]
          exact OR_mono hok (Nat.le_refl _) hgoes rfl rfl (fun _ _ => rfl) _ (hr.obj o)
      slot := fun t ht => by
        show VR P _ X.w0 _ _ _ _ [(vs.toArray ++ Array.replicate (fn.ntmps - vs.toArray.size) undef).getD t undef]
        rw [hg t, hlit t ht]
        exact VR_mono hok (Nat.le_refl _) hgoes _ (ArgsV_get hargs t)
      keys := hver
      tmps := by simp [X2, hn, hlen]; omega
      defers := rfl
      anch := fun hv => by
        rw [hbig 29999 (by omega)] at hv ⊢
        exact VR_mono hok (Nat.le_refl _) hgoes _ (hr.anch hv) }
  refine calls_of_aft (X := X2) hf hb rfl (fun e s h => h.1) (h.one none X2 _ _ ⟨rfl, fun _ => rfl⟩ hr2) ?_
  rintro e s' X3 a' w' β' ν' ⟨he, hres, hall, hcl⟩ x1 x2 x3 x4 x5 x6 hr'
  obtain ⟨v, hv1, hv2⟩ := hres X3 a' w' β' ν' hr'
  have hr3 := hr'.ofL hall hcl
  have hoke : ∀ (s : St) (b : Nat), okAt X3 s β' w' b → okAt X s β' w' b := fun s b hb' => by
    unfold okAt at hb' ⊢
    rw [x2, x3, x4] at hb'
    exact hb'
  have hsm1 : ∀ t, t < 10000 → ofL (withA S0 S1) t = .any := by
    intro t ht
    apply ofL_off
    simp only [withA, keysL, List.map_cons, List.mem_cons, not_or]
    refine ⟨by omega, fun hm => ?_⟩
    have := blt_lt (List.all_eq_true.1 hk1 t hm)
    omega
  have hlv : ∀ o, live (ofL (withA S0 S1) o) = true → ofL (withA S0 S1) o = s' o := by
    intro o hl
    rcases ofL_cases hall o with h' | ⟨h', _⟩
    · exact h'
    · rw [h'] at hl; cases hl
  have hkeq : ∀ o ∈ keysL S1, ofL (withA S0 S1) o = s' o := fun o ho => by
    have ho9 : o ≠ 29999 := fun e => by
      have := blt_lt (List.all_eq_true.1 hk1 o ho)
      have h2 := List.all_eq_true.1 hno o ho
      rw [e] at h2
      exact absurd h2 (by decide)
    rw [withA_on ho9]
    have hmem : (o, ofL S1 o) ∈ withA S0 S1 := List.mem_cons_of_mem _ (ofL_mem ho)
    exact (allEq_mem hall _ hmem).symm
  refine ⟨v, hv1, v, β', ν', rfl, ?_, VR_mono' (fun b hb' => ⟨hoke _ b ⟨hb'.1, hb'.2.1, fun o hl => hb'.2.2 o (by rw [← hlv o hl]; exact hl)⟩, rfl⟩) (Nat.le_refl _) r (fun o ho k hk' => ⟨k, by rw [hkeq o (by simpa using List.all_eq_true.1 hm o ho)]; exact hk', Nat.le_refl _, fun _ hl => ⟨by rw [← hkeq o (by simpa using List.all_eq_true.1 hm o ho)]; exact hl, rfl, rfl⟩⟩) hv2⟩
  have hgr : ∀ x vs, VR P (okAt X3 (ofL (withA S0 S1)) β' w') w' (ofL (withA S0 S1)) β' ν' x vs → VR P (okAt X (ofL (withA S0 S1)) β' w') w' (ofL (withA S0 S1)) β' ν' x vs := fun x vs hv => VR_mono (fun b hb' => ⟨hoke _ b hb', rfl⟩) (Nat.le_refl _) (Goes.refl _ _ _) x hv
  exact {
    os := by rw [hr3.os, x2], tape := by rw [hr3.tape, x2], output := by rw [hr3.output, x2], drawn := by have := hr3.drawn; rw [x2] at this; exact this
    size := by have := hr3.size; rw [x2] at this; exact this
    frame := fun b hb' hn' => by have := hr3.frame b (by rw [x2]; exact hb') (by rw [x4]; exact hn'); rw [x2] at this; exact this
    own := fun o b hl hb' => by have := hr3.own o b hl hb'; rw [x2, x4] at this; exact this
    inj := hr3.inj
    obj := fun o => OR_mono (fun b hb' => ⟨hoke _ b hb', rfl⟩) (Nat.le_refl _) (Goes.refl _ _ _) rfl rfl (fun _ _ => rfl) _ (hr3.obj o)
    slot := fun t ht => by rw [hsm1 t ht]; exact ⟨_, rfl⟩
    keys := fun t ht => by rw [hsm1 t ht]; rfl
    tmps := hr.tmps, defers := hr.defers
    kept := fun b o hb' => by have := hr3.kept b o (by rw [x6]; exact hb'); exact ⟨hoke _ b this.1, this.2⟩
    anch := fun hv => by have := hgr _ _ (hr3.anch hv); rw [x5] at this; exact this }

section
variable {P : Program}
theorem callV_rel {X : Cx} {t : St} {a : Act} {w : World} {β : Nat → Option Nat} {ν : Nat → Value} (hr : RelB P X t a w β ν) {f : FuncId} {args : List AV} {vs : List Value} {S0 S1 : List (Nat × AV)} {r : AV}
    (hS : allEq t S0) (hlv : S0.all (fun p => ancD p.2) = true) (hdd : DeadOk S1 S0) (hc0 : closedL S0 = true) (hc1 : closedL S1 = true) (hkk : keysL S1 = keysL S0) (hk4 : (keysL S0).all (fun k => Nat.blt 9999 k && !Nat.beq k 29999) = true)
    (hkind : S0.all (fun p => !isArr p.2 || !live (ofL S1 p.1) || isArr (ofL S1 p.1)) = true)
    (hargs : ArgsV P (okAt X t β w) w t β ν args vs) (hm : args.all (fun y => (ment y).all (fun o => (keysL S0).contains o)) = true) (hmr : (ment r).all (fun o => (keysL S0).contains o) = true) (hs : SpecV P f args S0 r S1) :
    Calls P f vs.toArray w (fun e w' => ∃ v β' ν', e = .returned v ∧ RelB P X (updL t S1) a w' β' ν' ∧ VR P (okAt X (updL t S1) β' w') w' (updL t S1) β' ν' r [v]) := by
  obtain ⟨X', _, hXw, _, _, hr0, hok0, _, hg0, hback⟩ := callB_core hr hS hlv hc0 hk4
  subst hXw
  have hargs0 : ArgsV P (okAt X' (ofL (withA S0 S0)) β X'.w0) X'.w0 (ofL (withA S0 S0)) β ν args vs := ArgsV_mono hok0 (fun y hy o ho => by
    have := List.all_eq_true.1 (List.all_eq_true.1 hm y hy) o ho
    exact hg0 o (by simpa using this)) hargs
  refine (hs X' a β ν vs hr0 hargs0).mono ?_
  rintro e w' ⟨v, β1, ν1, rfl, hr1, hv⟩
  obtain ⟨β', ν', h1, h2, _, h3⟩ := hback S1 hdd hc1 hkk hkind w' β1 ν1 hr1
  exact ⟨v, β', ν', rfl, h1, VR_mono' (fun b hb => ⟨h2 b hb, rfl⟩) (Nat.le_refl _) r (fun o ho => h3 o (by simpa using List.all_eq_true.1 hmr o ho)) hv⟩

section
variable {n : Nat} {ops : Array Oper} {s : St} {o : Oper}

def okV (args : List AV) (S0 S1 : List (Nat × AV)) : Bool :=
  S0.all (fun p => ancD p.2) && (closedL S0 && (closedL S1 && ((keysL S0).all (fun k => Nat.blt 9999 k && !Nat.beq k 29999) && (S0.all (fun p => !isArr p.2 || !live (ofL S1 p.1) || isArr (ofL S1 p.1)) && args.all (fun y => (ment y).all (fun o => (keysL S0).contains o))))))

theorem ver0 {r : AV} (h : Nat.beq (match ver r with | none => 0 | some _ => 1) 0 = true) : ver r = none := by
  cases e : ver r with
  | none => rfl
  | some k => rw [e] at h; cases h

theorem r_callV {f : FuncId} {xs : List Operand} {T : Array TypeId} {ys : List AV} {S0 S1 : List (Nat × AV)} {r : AV} {d : Nat} (ho : o.op = .call { callee := .value (.func f), args := xs.toArray, argTypes := T }) (hf : IsFn P f) (hs : SpecV P f ys S0 r S1) (hx : VArgs s xs ys) (hS : allEq s S0)
    (hkk : keysL S1 = keysL S0) (hdd : DeadOk S1 S0) (hok : okV ys S0 S1 = true) (hvr : Nat.beq (match ver r with | none => 0 | some _ => 1) 0 = true) (hmr : (ment r).all (fun o => (keysL S0).contains o) = true) (hd : o.dst = some d) (hg : o.guard = none) (hn : Nat.blt d n = true) (h4 : Nat.blt d 10000 = true) :
    LStep P n ops o (kxl xs ++ keysL S0, d :: keysL S1) s (upd (updL s S1) d r) := by
  simp only [okV, Bool.and_eq_true] at hok
  refine ⟨fun k hk => ?_, fun X t a w hX hk hr Q => ?_⟩
  · simp only [List.mem_cons, not_or] at hk
    rw [upd_ne _ _ hk.1, updL_off hk.2]
  · obtain ⟨β, ν, hr⟩ := hr
    have hrun : (execOp a.eval o).run P w = .ok (.enter f (xs.map a.eval).toArray) w := by
      simp [execOp, ho, resolve, Act.eval, Deferred.ofValue, invoke, run_callFunc hf]
    unfold opWp
    rw [if_pos (by simp [Region.wanted, hg])]
    left
    unfold Oper.wp
    rw [hrun]
    refine (callV_rel hr (allEq_of (kr hk) hS) hok.1 hdd hok.2.1 hok.2.2.1 hkk hok.2.2.2.1 hok.2.2.2.2.1 (VArgs.args hr (kl hk) hx) hok.2.2.2.2.2 hmr hs).mono ?_
    rintro e w' ⟨v, β', ν', rfl, hr', hv⟩
    show Rel P X (ovr t (d :: keysL S1) _) (a.put o.dst v) w'
    rw [ovr_L, hd]
    exact ⟨β', ν', hr'.put (by rw [hX]; exact blt_lt hn) (blt_lt h4) (ver0 hvr) hv⟩

end

theorem resV_tmp {fn : Func} {s : St} {t : Nat} {x y : AV} (hf : fn.results = #[.tmp t]) (ht : Nat.blt t 10000 = true) (h : s t = x) (hs : Sees x y) : ResV P fn s y := by
  intro X a w β ν hr
  have h2 := hr.slot t (blt_lt ht)
  rw [h] at h2
  have h1 : (runRes a.tmps (.tmp t)).run P w = .ok (a.tmps.getD t undef) w := rfl
  refine ⟨a.tmps.getD t undef, ?_, hs _ _ _ _ _ _ _ h2⟩
  rw [results_eq, hf]
  simp [h1]
theorem resV_eq {fn : Func} {s : St} {r r' : AV} (h : ResV P fn s r) (e : r = r') : ResV P fn s r' := e ▸ h
theorem endsV_ret {fn : Func} {S0 S1 : List (Nat × AV)} {s : St} {r : AV} (h : ResV P fn s r) (h1 : allEq s (withA S0 S1)) (h2 : closedL (withA S0 S1) = true) : EndsV P fn S0 r S1 .ret s := ⟨.inl rfl, h, h1, h2⟩
def ResOneB (P : Program) (s : St) (r : ResultVar) (d : D) : Prop :=
  ∀ (X : Cx) (a : Act) (w : World) (β : Nat → Option Nat) (ν : Nat → Value), RelB P X s a w β ν → ∃ v, (runRes a.tmps r).run P w = .ok v w ∧ RV P d (okAt X s β w) w v

theorem resB1_tmp {s : St} {t : Nat} {d : D} (ht : Nat.blt t 10000 = true) (h : Sees (s t) (.val d)) : ResOneB P s (.tmp t) d := by
  intro X a w β ν hr
  obtain ⟨v, e, hv⟩ := h _ _ _ _ _ _ _ (hr.slot t (blt_lt ht))
  simp only [List.cons.injEq, and_true] at e
  exact ⟨v, by simp only [runRes, e]; rfl, hv⟩

theorem resB2 {fn : Func} {s : St} {r1 r2 : ResultVar} {d1 d2 : D} (hf : fn.results = #[r1, r2]) (h1 : ResOneB P s r1 d1) (h2 : ResOneB P s r2 d2) : ResB P fn s (.tup (.cons d1 (.cons d2 .nil))) := by
  intro X a w β ν hr
  obtain ⟨v1, g1, k1⟩ := h1 X a w β ν hr
  obtain ⟨v2, g2, k2⟩ := h2 X a w β ν hr
  refine ⟨.tuple #[v1, v2], ?_, rfl, #[v1, v2], rfl, v1, [v2], rfl, k1.1, k1.2, v2, [], rfl, k2.1, k2.2, rfl⟩
  rw [results_eq, hf]
  simp [g1, g2]
end
end Go.Um
