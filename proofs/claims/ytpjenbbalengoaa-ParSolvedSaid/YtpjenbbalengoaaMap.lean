/- Maps of a call's own; guards that are known. No condition. -/
import Derived.Test.YtpjenbbalengoaaEff
namespace Go.Um
open Go Go.RowKit

def getL {κ α : Type} [DecidableEq κ] : List (κ × α) → κ → Option α
  | [], _ => none
  | (k, v) :: m, k' => if k' = k then some v else getL m k'
def putL {κ α : Type} [DecidableEq κ] : List (κ × α) → κ → α → List (κ × α)
  | [], k', v' => [(k', v')]
  | (k, v) :: m, k', v' => if k' = k then (k, v') :: m else (k, v) :: putL m k' v'
/-- The place of a key, with its element. -/
def fnd {κ α : Type} [DecidableEq κ] (vv : α → Value) : List (κ × α) → κ → Nat → Option (Nat × Value)
  | [], _, _ => none
  | (k, v) :: m, k', i => if k' = k then some (i, vv v) else fnd vv m k' (i + 1)

theorem fnd_get {κ α : Type} [DecidableEq κ] (vv : α → Value) : ∀ (m : List (κ × α)) (k : κ) (i : Nat), (fnd vv m k i).map (·.2) = (getL m k).map vv
  | [], _, _ => rfl
  | (k, v) :: m, k', i => by
    unfold fnd getL
    split
    · rfl
    · exact fnd_get vv m k' (i + 1)

/-- What is asked of a map's type: T itself, K of its keys, E of its elements. -/
structure MapTy (P : Program) (T K E : TypeId) {κ α : Type} [DecidableEq κ] (kv : κ → Value) (kd : κ → D) (vv : α → Value) (vd : α → D) (z : α) : Prop where
  und : P.underlying T = some (.map K E)
  zero : Zero P E (vv z)
  key : ∀ k ok w v, RV P (kd k) ok w v → v = kv k
  check : ∀ e k w, (Instr.checkKey e 10000 K (kv k)).run P w = .ok () w
  same : ∀ k, Instr.sameBits 10000 (kv k) (kv k) = true
  find : ∀ k (m : List (κ × α)) (es : List MapEntry) w, es.map (fun e => (e.key, e.val)) = m.map (fun p => (kv p.1, vv p.2)) → (Instr.findKey K (kv k) es).run P w = .ok (fnd vv m k 0) w
  val : ∀ a ok w, RV P (vd a) ok w (vv a)
  valr : ∀ a ok w v, RV P (vd a) ok w v → v = vv a
  flat : ∀ a, (vd a).flat = true

section
variable {P : Program} {n : Nat} {ops : Array Oper} {s : St} {o : Oper}

/-- 'make(map[K]E)', 'map[K]E{}'. -/
theorem r_makeMap {T d ob : Nat} {κ α : Type} (kv : κ → Value) (vv : α → Value) (ho : o.op = .makeMap T none) (hd : o.dst = some d) (hg : o.guard = none) (hob : Nat.blt 9999 ob = true) (hn : Nat.blt d n = true) (h4 : Nat.blt d 10000 = true) :
    LStep P n ops o (ob :: [], [d, ob]) s (upd (upd s ob (.mp (newVer (s ob)) kv vv [])) d (.row ob (newVer (s ob)))) := by
  refine ⟨off_two, fun X t a w hX hk hr Q => ?_⟩
  obtain ⟨β, ν, hr⟩ := hr
  have hrun : (execOp a.eval o).run P w = .ok (.value (.map (some w.heap.size))) (w.alloc (.map #[] 0)) := by
    simp [execOp, ho, Instr.makeMap]
  refine opWp_run (by simp [Region.wanted, hg]) hrun ?_
  have hob' := blt_lt hob
  have hd4 := blt_lt h4
  rw [ovr_two (by omega), hd]
  have hto : t ob = s ob := hk ob (by simp)
  refine ⟨updF β ob (some w.heap.size), updF ν ob (.map (some w.heap.size)), hr.newObj (Kill.refl t) (by omega) (by rw [hX]; exact blt_lt hn) hd4 rfl rfl ⟨rfl, Nat.le_refl _⟩ (by simp) (fun b hb => .inl (Below.heap_alloc _ _ _ hb)) (fun b hb => .inl ?_) (by rw [hto]; rfl) rfl ?_⟩
  · cases hb; simp
  · intro hok hgo
    refine ⟨⟨w.heap.size, #[], 0, updF_same .., updF_same .., heap_new w _, rfl⟩, ?_⟩
    refine ⟨_, newVer (s ob), rfl, ?_, Nat.le_refl _, fun _ _ => (updF_same ..).symm⟩
    rw [upd_ne _ _ (by omega), upd_same]
    rfl

theorem RelB.atMap {X : Cx} {t : St} {a : Act} {w : World} {β : Nat → Option Nat} {ν : Nat → Value} (hr : RelB P X t a w β ν) {x : Operand} {o1 u : Nat} {κ α : Type} {kv : κ → Value} {vv : α → Value} {m : List (κ × α)} (hk : ∀ k ∈ o1 :: kx x, t k = s k) (hx : Sees (ev s x) (.row o1 u)) (hb : s o1 = .mp u kv vv m) :
    ∃ b es clock, a.eval x = .map (some b) ∧ β o1 = some b ∧ ν o1 = a.eval x ∧ w.heap[b]? = some (.map es clock) ∧ es.toList.map (fun e => (e.key, e.val)) = m.map (fun p => (kv p.1, vv p.2)) := by
  obtain ⟨v, k, e1, h1, h2, h3⟩ := hr.sees (fun k hk' => hk k (by simp [hk'])) hx
  simp only [List.cons.injEq, and_true] at e1
  have hob : t o1 = .mp u kv vv m := by rw [hk o1 (by simp), hb]
  rw [hob] at h1
  simp only [ver, Option.some.injEq] at h1
  have hv := h3 h1 (by rw [hob]; rfl)
  have ho := hr.obj o1
  rw [hob] at ho
  obtain ⟨b, es, cl, g1, g2, g3, g4⟩ := ho
  exact ⟨b, es, cl, by rw [e1, hv, g1], g2, by rw [e1, hv], g3, g4⟩

theorem run_getM {w : World} {r : Nat} {es : Array MapEntry} {clock : Nat} (hb : w.heap[r]? = some (.map es clock)) : (getObj r).run P w = .ok (.map es clock) w := by simp [getObj, Sem.run, hb]
theorem run_setM {w : World} {r : Nat} {es : Array MapEntry} {clock : Nat} (o : Obj) (hb : w.heap[r]? = some (.map es clock)) : (setObj r o).run P w = .ok () { w with heap := w.heap.setIfInBounds r o } := by simp [setObj, Sem.run, hb]
theorem run_underlying {T : TypeId} {d : TypeDesc} (h : P.underlying T = some d) (w : World) : (underlying T).run P w = .ok d w := by
  simp [underlying, h]

theorem run_look {T K E : TypeId} {κ α : Type} [DecidableEq κ] {kv : κ → Value} {kd : κ → D} {vv : α → Value} {vd : α → D} {z : α} (hT : MapTy P T K E kv kd vv vd z) {m : List (κ × α)} {b : Nat} {es : Array MapEntry} {cl : Nat} {w : World} (k : κ) (c : Bool)
    (hh : w.heap[b]? = some (.map es cl)) (hm : es.toList.map (fun e => (e.key, e.val)) = m.map (fun p => (kv p.1, vv p.2))) :
    (Instr.lookup T (.map (some b)) (kv k) c).run P w = .ok (if c then .tuple #[vv ((getL m k).getD z), .bool (getL m k).isSome] else vv ((getL m k).getD z)) w := by
  have hf := hT.find k m es.toList w hm
  have hz := run_zero hT.zero w
  have hg := fnd_get vv m k 0
  have hu := run_underlying hT.und w
  have hc := fun e => hT.check e k w
  unfold Instr.lookup
  cases hfd : fnd vv m k 0 with
  | none =>
    rw [hfd] at hf hg
    have hg' : getL m k = none := by cases h : getL m k <;> simp_all
    cases c <;> simp [hu, run_getM hh, hc, hf, hz, hg']
  | some p =>
    rw [hfd] at hf hg
    obtain ⟨x, h1, h2⟩ : ∃ x, getL m k = some x ∧ vv x = p.2 := by
      cases h : getL m k with
      | none => rw [h] at hg; cases hg
      | some x => rw [h] at hg; exact ⟨x, rfl, by simpa using hg.symm⟩
    cases c <;> simp [hu, run_getM hh, hc, hf, h1, h2]

/-- 'm[k]'. -/
theorem p_look {x y : Operand} {T K E o1 u : Nat} {κ α : Type} [DecidableEq κ] {kv : κ → Value} {kd : κ → D} {vv : α → Value} {vd : α → D} {z : α} {m : List (κ × α)} {k : κ} (ho : o.op = .lookup T x y false) (hT : MapTy P T K E kv kd vv vd z)
    (hx : Sees (ev s x) (.row o1 u)) (hb : s o1 = .mp u kv vv m) (hy : Sees (ev s y) (.val (kd k))) : PStep P o ((o1 :: kx x) ++ kx y) s (.val (vd ((getL m k).getD z))) := by
  intro X t a w β ν hk hr
  refine ⟨rfl, vv ((getL m k).getD z), ?_, ⟨_, rfl, hT.val _ _ _⟩⟩
  obtain ⟨b, es, cl, e1, _, _, hh, hm⟩ := hr.atMap (kl hk) hx hb
  obtain ⟨v, e2, hv⟩ := hr.sees (kr hk) hy
  simp only [List.cons.injEq, and_true] at e2
  have e3 := hT.key k _ _ _ hv
  have := run_look hT k false hh hm
  simp [execOp, ho, e1, e2, e3, this]

/-- 'v, ok := m[k]'. -/
theorem p_lookOk {x y : Operand} {T K E o1 u : Nat} {κ α : Type} [DecidableEq κ] {kv : κ → Value} {kd : κ → D} {vv : α → Value} {vd : α → D} {z : α} {m : List (κ × α)} {k : κ} (ho : o.op = .lookup T x y true) (hT : MapTy P T K E kv kd vv vd z)
    (hx : Sees (ev s x) (.row o1 u)) (hb : s o1 = .mp u kv vv m) (hy : Sees (ev s y) (.val (kd k))) : PStep P o ((o1 :: kx x) ++ kx y) s (.val (.tup (.cons (vd ((getL m k).getD z)) (.cons (.bool (getL m k).isSome) .nil)))) := by
  intro X t a w β ν hk hr
  refine ⟨rfl, .tuple #[vv ((getL m k).getD z), .bool (getL m k).isSome], ?_, ⟨_, rfl, rfl, ?_⟩⟩
  · obtain ⟨b, es, cl, e1, _, _, hh, hm⟩ := hr.atMap (kl hk) hx hb
    obtain ⟨v, e2, hv⟩ := hr.sees (kr hk) hy
    simp only [List.cons.injEq, and_true] at e2
    have e3 := hT.key k _ _ _ hv
    have := run_look hT k true hh hm
    simp [execOp, ho, e1, e2, e3, this]
  · have h1 := hT.val ((getL m k).getD z) (okAt X t β w) w
    exact ⟨_, rfl, _, _, rfl, h1.1, h1.2, _, _, rfl, rfl, rfl, rfl⟩

theorem modify_put {κ α : Type} [DecidableEq κ] {kv : κ → Value} {vv : α → Value} (k : κ) (v : α) (key : Value) (hkey : key = kv k) : ∀ (m : List (κ × α)) (es : List MapEntry) (j i : Nat) (x : Value), es.map (fun e => (e.key, e.val)) = m.map (fun p => (kv p.1, vv p.2)) → fnd vv m k j = some (i, x) →
    j ≤ i ∧ i - j < es.length ∧ ((es[i - j]?).map (·.key)) = some (kv k) ∧ (es.modify (i - j) fun e => { e with key := key, val := vv v }).map (fun e => (e.key, e.val)) = (putL m k v).map (fun p => (kv p.1, vv p.2))
  | [], es, j, i, x, _, hf => by cases hf
  | (k0, v0) :: m, [], j, i, x, hm, _ => by cases hm
  | (k0, v0) :: m, e :: es, j, i, x, hm, hf => by
    simp only [List.map_cons, List.cons.injEq, Prod.mk.injEq] at hm
    unfold fnd at hf
    unfold putL
    by_cases e0 : k = k0
    · subst e0
      simp only [if_true, Option.some.injEq, Prod.mk.injEq] at hf ⊢
      obtain ⟨rfl, _⟩ := hf
      simp only [Nat.sub_self]
      refine ⟨Nat.le_refl _, by simp, by simp [hm.1.1], ?_⟩
      simp [hm.2, hkey]
    · simp only [e0, if_false] at hf ⊢
      obtain ⟨h1, h2, h3, h4⟩ := modify_put k v key hkey m es (j + 1) i x hm.2 hf
      have e1 : i - j = (i - (j + 1)) + 1 := by omega
      rw [e1]
      refine ⟨by omega, by simp; omega, by simpa using h3, ?_⟩
      simp only [List.modify_succ_cons, List.map_cons, h4, hm.1.1, hm.1.2]

theorem push_put {κ α : Type} [DecidableEq κ] {kv : κ → Value} {vv : α → Value} (k : κ) (v : α) : ∀ (m : List (κ × α)) (j : Nat), fnd vv m k j = none → (putL m k v).map (fun p => (kv p.1, vv p.2)) = m.map (fun p => (kv p.1, vv p.2)) ++ [(kv k, vv v)]
  | [], j, _ => rfl
  | (k0, v0) :: m, j, hf => by
    unfold fnd at hf
    unfold putL
    by_cases e0 : k = k0
    · simp [e0] at hf
    · simp only [e0, if_false] at hf ⊢
      simp only [List.map_cons, push_put k v m (j + 1) hf, List.cons_append]

/-- A map's block is put anew. -/
theorem RelB.setMap {X : Cx} {t : St} {a : Act} {w w' : World} {β : Nat → Option Nat} {ν : Nat → Value} (hr : RelB P X t a w β ν) {ob u b : Nat} {κ α : Type} {kv : κ → Value} {vv : α → Value} {m m' : List (κ × α)} {es' : Array MapEntry} {cl' : Nat} (h4 : 10000 ≤ ob) (hb : t ob = .mp u kv vv m)
    (hβ : β ob = some b) (hν : ν ob = .map (some b)) (hw : w' = { w with heap := w.heap.setIfInBounds b (.map es' cl') }) (hv : es'.toList.map (fun e => (e.key, e.val)) = m'.map (fun p => (kv p.1, vv p.2))) :
    RelB P X (upd t ob (.mp u kv vv m')) a w' β ν := by
  have hlv : ∀ o, live (upd t ob (.mp u kv vv m') o) = live (t o) ∧ ver (upd t ob (.mp u kv vv m') o) = ver (t o) := by
    intro o
    by_cases e : o = ob
    · subst e; rw [upd_same, hb]; exact ⟨rfl, rfl⟩
    · rw [upd_ne _ _ e]; exact ⟨rfl, rfl⟩
  have hlob : live (t ob) = true := by rw [hb]; rfl
  have hsz : w'.heap.size = w.heap.size := by rw [hw]; simp
  have hoth : ∀ b', b ≠ b' → w'.heap[b']? = w.heap[b']? := fun b' hne => by rw [hw]; simp [Array.getElem?_setIfInBounds, hne]
  have hlt := (hr.own ob b hlob hβ).2
  have hat : w'.heap[b]? = some (.map es' cl') := by rw [hw]; simp [hlt]
  have hgoes : Goes t (upd t ob (.mp u kv vv m')) β β ν ν := fun o k hk => ⟨k, by rw [(hlv o).2]; exact hk, Nat.le_refl _, fun _ hl => ⟨by rw [← (hlv o).1]; exact hl, rfl, rfl⟩⟩
  have hok : ∀ b', okAt X t β w b' → okAt X (upd t ob (.mp u kv vv m')) β w' b' ∧ w'.heap[b']? = w.heap[b']? := by
    intro b' hb'
    refine ⟨⟨hb'.1, by rw [hsz]; exact hb'.2.1, fun o hl => hb'.2.2 o (by rw [← (hlv o).1]; exact hl)⟩, ?_⟩
    exact hoth b' (fun e => hb'.2.2 ob hlob (by rw [hβ, e]))
  refine hr.move (by rw [hw]) (by rw [hw]) ⟨by rw [hw], by rw [hw]; exact Nat.le_refl _⟩ (by rw [hsz]; exact Nat.le_refl _) ?_ hok hgoes ?_ ?_ ?_ ?_ ?_ rfl rfl (fun hv => .inl (upd_ne _ _ (by intro e; rw [e, upd_same] at hv; cases hv)))
  · intro b' hb' hn
    refine hoth b' (fun e => ?_)
    subst e
    rcases (hr.own ob b hlob hβ).1 with h | h
    · omega
    · exact hn h
  · intro o b' hl hb'; exact .inl ⟨by rw [← (hlv o).1]; exact hl, hb'⟩
  · intro o o' b' hl hl' hb1 hb2
    exact hr.inj o o' b' (by rw [← (hlv o).1]; exact hl) (by rw [← (hlv o').1]; exact hl') hb1 hb2
  · intro o hl
    by_cases e : o = ob
    · subst e
      right
      rw [upd_same]
      exact ⟨b, es', cl', hν, hβ, hat, hv⟩
    · left
      refine ⟨upd_ne _ _ e, rfl, rfl, fun b' hb' => hoth b' (fun e' => e ?_)⟩
      subst e'
      exact hr.inj o ob b (by rw [← (hlv o).1]; exact hl) hlob hb' hβ
  · intro k hk
    left
    exact ⟨upd_ne _ _ (by omega), rfl⟩
  · intro k hk
    rw [(hlv k).2]
    exact hr.keys k hk

/-- 'm[k] = v'. -/
theorem r_mapPut {x y q : Operand} {T K E o1 u : Nat} {κ α : Type} [DecidableEq κ] {kv : κ → Value} {kd : κ → D} {vv : α → Value} {vd : α → D} {z : α} {m : List (κ × α)} {k : κ} {v : α} (ho : o.op = .mapUpdate T x y q) (hT : MapTy P T K E kv kd vv vd z)
    (hd : o.dst = none) (hg : o.guard = none) (hob : Nat.blt 9999 o1 = true) (hx : Sees (ev s x) (.row o1 u)) (hb : s o1 = .mp u kv vv m) (hy : Sees (ev s y) (.val (kd k))) (hq : Sees (ev s q) (.val (vd v))) :
    LStep P n ops o ((o1 :: kx x) ++ (kx y ++ kx q), [o1]) s (upd s o1 (.mp u kv vv (putL m k v))) := by
  refine ⟨upd_off, fun X t a w hX hk hr Q => ?_⟩
  obtain ⟨β, ν, hr⟩ := hr
  obtain ⟨b, es, cl, e1, hβ, hν, hh, hm⟩ := hr.atMap (kl hk) hx hb
  obtain ⟨v1, e2, hv⟩ := hr.sees (fun k hk' => kr hk k (by simp [hk'])) hy
  obtain ⟨v2, e4, hv2⟩ := hr.sees (fun k hk' => kr hk k (by simp [hk'])) hq
  simp only [List.cons.injEq, and_true] at e2 e4
  have e3 := hT.key k _ _ _ hv
  have e5 := hT.valr v _ _ _ hv2
  have hlob : live (t o1) = true := by rw [hk o1 (by simp), hb]; rfl
  have hlt := (hr.own o1 b hlob hβ).2
  have hf := hT.find k m es.toList w hm
  have hu := run_underlying hT.und w
  have hc := fun e => hT.check e k w
  have hob' := blt_lt hob
  have hput : ∃ es' cl', (execOp a.eval o).run P w = .ok .skip { w with heap := w.heap.setIfInBounds b (.map es' cl') } ∧ es'.toList.map (fun e => (e.key, e.val)) = (putL m k v).map (fun p => (kv p.1, vv p.2)) := by
    cases hfd : fnd vv m k 0 with
    | none =>
      rw [hfd] at hf
      refine ⟨es.push { key := kv k, val := vv v, born := cl }, cl + 1, ?_, ?_⟩
      · simp [execOp, ho, Instr.mapUpdate, e1, e2, e3, e4, e5, hu, run_getM hh, hc, hf, run_setM _ hh]
      · rw [push_put k v m 0 hfd, ← hm]; simp
    | some p =>
      obtain ⟨i, x0⟩ := p
      rw [hfd] at hf
      obtain ⟨_, h2, h3, h4⟩ := modify_put (vv := vv) k v (kv k) rfl m es.toList 0 i x0 hm hfd
      simp only [Nat.sub_zero] at h2 h3 h4
      refine ⟨es.modify i fun e => { e with key := kv k, val := vv v }, cl, ?_, ?_⟩
      · have hk' : ((es[i]?).map (·.key)).getD (kv k) = kv k := by
          have : (es[i]?).map (·.key) = some (kv k) := by simpa using h3
          rw [this]; rfl
        have hkt : (Instr.keyThatStays (kv k) (kv k)).run P w = .ok (kv k) w := by simp [Instr.keyThatStays, hT.same k]
        simp [execOp, ho, Instr.mapUpdate, e1, e2, e3, e4, e5, hu, run_getM hh, hc, hf, run_setM _ hh, hk', hkt]
      · rw [← h4]; simp
  obtain ⟨es', cl', hrun, hes⟩ := hput
  refine opWp_skip (by simp [Region.wanted, hg]) hd hrun ?_
  rw [ovr_one]
  exact ⟨β, ν, hr.setMap (by omega) (by rw [hk o1 (by simp), hb]) hβ (by rw [hν, e1]) rfl hes⟩

/-- A map is stored into a variable's cell. -/
theorem r_storeM {x y : Operand} {T ob u off o1 u1 : Nat} {κ α : Type} {kv : κ → Value} {vv : α → Value} {m : List (κ × α)} {c : AV} (ho : o.op = .store T x y) (hs : Size P T 1) (hd : o.dst = none) (hg : o.guard = none) (hob : Nat.blt 9999 ob = true) (hx : Sees (ev s x) (.ref ob u off)) (hb : s ob = .box u c) (hi : Nat.blt off c.len = true)
    (hy : Sees (ev s y) (.row o1 u1)) (hb1 : s o1 = .mp u1 kv vv m) : LStep P n ops o ((ob :: kx x) ++ (o1 :: kx y), [ob]) s (upd s ob (.box u (c.set off (.row o1 u1)))) := by
  refine ⟨upd_off, fun X t a w hX hk hr Q => ?_⟩
  obtain ⟨β, ν, hr⟩ := hr
  obtain ⟨b, cs, ty, g1, g2, g3, g4, g5⟩ := hr.atBox (kl hk) hx hb
  obtain ⟨b2, es, cl, q1, _⟩ := hr.atMap (kr hk) hy hb1
  have hv := hr.sees (fun k hk' => kr hk k (by simp [hk'])) hy
  have hv1 : (a.eval y).oneCell' = true := by rw [q1]; rfl
  have hlt : off < cs.size := by
    obtain ⟨q, hq, _⟩ := VR_nth c off g5 (blt_lt hi)
    have := (List.getElem?_eq_some_iff.1 hq).1
    simpa using this
  have hcl : (a.eval y).cells.toList = [a.eval y] := by rw [q1]; rfl
  have hcz : (a.eval y).cells.size = 1 := by rw [← Array.length_toList, hcl]; rfl
  have hrun : (execOp a.eval o).run P w = .ok .skip (w.setRow b (cs.toList.set off (a.eval y)).toArray) := by
    have hst := run_storeCells_at (P := P) b off ty [a.eval y] 0 cs w g3 (by simp; omega) (by simpa using hv1)
    have e : (cs.toList.take (off + 0) ++ [a.eval y] ++ cs.toList.drop (off + 0 + [a.eval y].length)) = cs.toList.set off (a.eval y) := by
      simp only [Nat.add_zero, List.length_singleton, List.append_assoc, List.singleton_append]
      rw [List.set_eq_take_append_cons_drop]
      simp [hlt]
    rw [e] at hst
    simp [execOp, ho, Instr.storeAt, g1, Instr.sureAddr, storeVar, run_sizeOf hs, hcz, hcl, hst]
  refine opWp_skip (by simp [Region.wanted, hg]) hd hrun ?_
  rw [ovr_one]
  have hob' := blt_lt hob
  refine ⟨β, ν, hr.setBox (by omega) (by rw [hk ob (by simp), hb]) g2 g3 ?_ ?_⟩
  · intro q hq
    rcases List.mem_or_eq_of_mem_set hq with h | h
    · exact g4 q h
    · rw [h]; exact hv1
  · exact VR_set c off _ _ g5 (blt_lt hi) hv

/-! ### Guards that are known -/
theorem yield_of {X : Cx} {t : St} {a : Act} {w : World} {β : Nat → Option Nat} {ν : Nat → Value} (hr : RelB P X t a w β ν) {j g : Nat} {b : Bool} (hX : X.n = n) (hj : (ops[j]?).bind (·.dst) = some g) (hgn : Nat.blt g n = true) (hg4 : Nat.blt g 10000 = true) (hb : t g = .val (.bool b)) : yielded ops a.tmps j = some b := by
  have hs := hr.slot g (blt_lt hg4)
  rw [hb] at hs
  have hv := vr_bool hs
  have hlt : g < a.tmps.size := by rw [hr.tmps, hX]; exact blt_lt hgn
  refine yielded_bool hj ?_
  rw [Array.getElem?_eq_getElem hlt]
  rw [Array.getD_eq_getD_getElem?, Array.getElem?_eq_getElem hlt] at hv
  simpa using hv

theorem LStep.gtrue {F : List Nat × List Nat} {s' : St} {j g : Nat} {want b : Bool} (hg : o.guard = some (j, want)) (hj : (ops[j]?).bind (·.dst) = some g) (hb : s g = .val (.bool b)) (hgn : Nat.blt g n = true) (hg4 : Nat.blt g 10000 = true)
    (hw : b = want) (h : LStep P n ops { o with guard := none } F s s') : LStep P n ops o (g :: F.1, F.2) s s' := by
  refine ⟨h.1, fun X t a w hX hk hr Q => ?_⟩
  have h1 := h.2 X t a w hX (fun k hk' => hk k (by simp [hk'])) hr Q
  obtain ⟨β, ν, hr⟩ := hr
  have hy := yield_of (ops := ops) hr hX hj hgn hg4 (by rw [hk g (by simp), hb])
  have hwn : Region.wanted o (yielded ops a.tmps) = true := by simp [Region.wanted, hg, hy, hw]
  unfold opWp at h1 ⊢
  rw [hwn, if_pos rfl]
  simp only [Region.wanted, if_true] at h1
  exact h1

theorem LStep.gfalse {d j g : Nat} {want b : Bool} (hg : o.guard = some (j, want)) (hj : (ops[j]?).bind (·.dst) = some g) (hb : s g = .val (.bool b)) (hgn : Nat.blt g n = true) (hg4 : Nat.blt g 10000 = true)
    (hw : b = !want) (hd : o.dst = some d) (hn : Nat.blt d n = true) (h4 : Nat.blt d 10000 = true) : LStep P n ops o ([g], [d]) s (upd s d .any) := by
  refine ⟨upd_off, fun X t a w hX hk hr Q => ?_⟩
  obtain ⟨β, ν, hr⟩ := hr
  have hy := yield_of (ops := ops) hr hX hj hgn hg4 (by rw [hk g (by simp), hb])
  have hwn : Region.wanted o (yielded ops a.tmps) = false := by subst hw; cases want <;> simp [Region.wanted, hg, hy]
  unfold opWp
  rw [hwn, ovr_one, hd]
  simp only [Bool.false_eq_true, if_false]
  exact ⟨β, ν, hr.put (by rw [hX]; exact blt_lt hn) (blt_lt h4) rfl ⟨_, rfl⟩⟩

/-- A guarded operation without a result, not wanted. -/
theorem LStep.gskip {j g : Nat} {want b : Bool} (hg : o.guard = some (j, want)) (hj : (ops[j]?).bind (·.dst) = some g) (hb : s g = .val (.bool b)) (hgn : Nat.blt g n = true) (hg4 : Nat.blt g 10000 = true)
    (hw : b = !want) (hd : o.dst = none) : LStep P n ops o ([g], []) s s := by
  refine ⟨fun _ _ => rfl, fun X t a w hX hk hr Q => ?_⟩
  obtain ⟨β, ν, hr⟩ := hr
  have hy := yield_of (ops := ops) hr hX hj hgn hg4 (by rw [hk g (by simp), hb])
  have hwn : Region.wanted o (yielded ops a.tmps) = false := by subst hw; cases want <;> simp [Region.wanted, hg, hy]
  unfold opWp
  rw [hwn, hd]
  simp only [Bool.false_eq_true, if_false]
  have : ovr t [] s = t := by funext k; simp [ovr]
  rw [this]
  exact ⟨β, ν, hr⟩

/-- 'pick' where it is known which. -/
theorem p_pickT {c x y : Operand} {z : AV} (ho : o.op = .pick c x y) (hc : Sees (ev s c) (.val (.bool true))) (hx : Sees (ev s x) z) (hv : ver z = none) : PStep P o (kx c ++ kx x) s z := by
  intro X t a w β ν hk hr
  have h1 := hr.bool (kl hk) hc
  exact ⟨hv, a.eval x, by simp [execOp, ho, h1, asBool], hr.sees (kr hk) hx⟩
theorem p_pickF {c x y : Operand} {z : AV} (ho : o.op = .pick c x y) (hc : Sees (ev s c) (.val (.bool false))) (hy : Sees (ev s y) z) (hv : ver z = none) : PStep P o (kx c ++ kx y) s z := by
  intro X t a w β ν hk hr
  have h1 := hr.bool (kl hk) hc
  exact ⟨hv, a.eval y, by simp [execOp, ho, h1, asBool], hr.sees (kr hk) hy⟩
end

/-! ### Types of maps -/
section
variable {P : Program}
theorem fnd_asking {K : TypeId} {κ α : Type} [DecidableEq κ] {kv : κ → Value} {vv : α → Value} (k : κ) (heq : ∀ k' w, (Op.equal K (kv k) (kv k')).run P w = .ok (decide (k = k')) w) : ∀ (m : List (κ × α)) (es : List MapEntry) (i : Nat) (w : World), es.map (fun e => (e.key, e.val)) = m.map (fun p => (kv p.1, vv p.2)) →
    (Instr.findAsking K (kv k) es i).run P w = .ok (fnd vv m k i) w
  | [], [], i, w, _ => rfl
  | [], e :: es, i, w, h => by cases h
  | (k0, v0) :: m, [], i, w, h => by cases h
  | (k0, v0) :: m, e :: es, i, w, h => by
    simp only [List.map_cons, List.cons.injEq, Prod.mk.injEq] at h
    have h1 := heq k0 w
    have ih := fnd_asking k heq m es (i + 1) w h.2
    unfold Instr.findAsking fnd
    rw [h.1.1]
    by_cases e0 : k = k0
    · subst e0; simp [h1, h.1.2]
    · simp [h1, e0, ih]

theorem bytes_beq (a b : ByteArray) : (a == b) = decide (a = b) := by
  cases a with
  | mk x =>
    cases b with
    | mk y =>
      show (x == y) = _
      by_cases h : x = y
      · subst h; simp
      · simp [h]

abbrev vInt (a : Int) : Value := .int .i64 a
abbrev vCho (p : Int × Int × Int) : Value := .agg #[.int .i64 p.1, .int .i64 p.2.1, .int .i64 p.2.2]

theorem fnd_now {κ α : Type} [DecidableEq κ] {kv : κ → Value} {vv : α → Value} {d : TypeDesc} (k : κ) (heq : ∀ k', Instr.sameNow d (kv k) (kv k') = some (decide (k = k'))) : ∀ (m : List (κ × α)) (es : List MapEntry) (i : Nat), es.map (fun e => (e.key, e.val)) = m.map (fun p => (kv p.1, vv p.2)) →
    Instr.findNow d (kv k) es i = some (fnd vv m k i)
  | [], [], i, _ => rfl
  | [], e :: es, i, h => by cases h
  | (k0, v0) :: m, [], i, h => by cases h
  | (k0, v0) :: m, e :: es, i, h => by
    simp only [List.map_cons, List.cons.injEq, Prod.mk.injEq] at h
    have h1 := heq k0
    have ih := fnd_now k heq m es (i + 1) h.2
    unfold Instr.findNow fnd
    rw [h.1.1, h1]
    by_cases e0 : k = k0
    · simp [e0, h.1.2]
    · simp [e0, ih]

theorem val_bool {ok : Nat → Prop} {w : World} (a : Bool) : RV P (.bool a) ok w (.bool a) := ⟨rfl, rfl⟩
theorem val_int {ok : Nat → Prop} {w : World} (a : Int) : RV P (.int .i64 a) ok w (vInt a) := ⟨rfl, rfl⟩
theorem valr_bool {ok : Nat → Prop} {w : World} (a : Bool) (v : Value) (h : RV P (.bool a) ok w v) : v = .bool a := vr_bool (s := fun _ => .any) (β := fun _ => none) (ν := fun _ => undef) ⟨v, rfl, h⟩
theorem valr_int {ok : Nat → Prop} {w : World} (a : Int) (v : Value) (h : RV P (.int .i64 a) ok w v) : v = vInt a := vr_int (s := fun _ => .any) (β := fun _ => none) (ν := fun _ => undef) ⟨v, rfl, h⟩
theorem valr_str {ok : Nat → Prop} {w : World} (a : ByteArray) (v : Value) (h : RV P (.str a) ok w v) : v = .string a := vr_str (s := fun _ => .any) (β := fun _ => none) (ν := fun _ => undef) ⟨v, rfl, h⟩

/-- Keys that are structs of three numbers. -/
theorem mapTy_cho {T K E : TypeId} {α : Type} {vv : α → Value} {vd : α → D} {z : α} (hu : P.underlying T = some (.map K E)) (hE : Eq3 P K) (hz : Zero P E (vv z)) (h1 : ∀ a ok w, RV P (vd a) ok w (vv a)) (h2 : ∀ a ok w v, RV P (vd a) ok w v → v = vv a) (h3 : ∀ a, (vd a).flat = true) : MapTy P T K E vCho dCho vv vd z where
  und := hu
  zero := hz
  key := fun k ok w v h => R_ints3 h
  check := fun e k w => by
    obtain ⟨F1, F2, F3, hs, n1, n2, n3, o1, o2, o3, u1, u2, u3, _, _⟩ := hE
    have c : ∀ (d : Nat) (t : TypeId) (x : Int) (w : World), P.underlying t = some (.int .i64) → (Instr.checkKey e (d + 1) t (.int .i64 x)).run P w = .ok () w := fun d t x w ht => by
      unfold Instr.checkKey; simp [run_underlying ht]
    have p1 := run_part u1 #[.int .i64 k.1, .int .i64 k.2.1, .int .i64 k.2.2] F1.offset _ (by rw [o1]; rfl) w
    have p2 := run_part u2 #[.int .i64 k.1, .int .i64 k.2.1, .int .i64 k.2.2] F2.offset _ (by rw [o2]; rfl) w
    have p3 := run_part u3 #[.int .i64 k.1, .int .i64 k.2.1, .int .i64 k.2.2] F3.offset _ (by rw [o3]; rfl) w
    show (Instr.checkKey e (9998 + 1 + 1) K (vCho k)).run P w = .ok () w
    rw [Instr.checkKey]
    simp [run_underlying hs, n1, n2, n3, p1, p2, p3, c 9998 _ _ w u1, c 9998 _ _ w u2, c 9998 _ _ w u3]
  same := fun k => by
    show Instr.sameBits (9998 + 1 + 1) (vCho k) (vCho k) = true
    rw [vCho, Instr.sameBits]
    simp [Instr.sameBits]
  find := fun k m es w h => by
    have heq : ∀ k' w, (Op.equal K (vCho k) (vCho k')).run P w = .ok (decide (k = k')) w := fun k' w => by
      have := run_eq3 hE 9998 k.1 k.2.1 k.2.2 k'.1 k'.2.1 k'.2.2 w
      rw [show decide (k = k') = (decide (k.1 = k'.1) && (decide (k.2.1 = k'.2.1) && decide (k.2.2 = k'.2.2))) by
        obtain ⟨a, b, c⟩ := k; obtain ⟨a', b', c'⟩ := k'; simp]
      exact this
    have ha := fnd_asking k heq m es 0 w h
    obtain ⟨F1, F2, F3, hs, _⟩ := hE
    unfold Instr.findKey
    cases es with
    | nil =>
      cases m with
      | nil => simp [run_underlying hs, Instr.findNow, fnd]
      | cons => cases h
    | cons e es =>
      simp [run_underlying hs, Instr.findNow, Instr.sameNow, ha]
  val := h1
  valr := h2
  flat := h3

/-- Keys that are numbers. -/
theorem mapTy_int {T K E : TypeId} {α : Type} {vv : α → Value} {vd : α → D} {z : α} (hu : P.underlying T = some (.map K E)) (hE : P.underlying K = some (.int .i64)) (hz : Zero P E (vv z)) (h1 : ∀ a ok w, RV P (vd a) ok w (vv a)) (h2 : ∀ a ok w v, RV P (vd a) ok w v → v = vv a) (h3 : ∀ a, (vd a).flat = true) : MapTy P T K E vInt di vv vd z where
  und := hu
  zero := hz
  key := fun k ok w v h => valr_int k v h
  check := fun e k w => by unfold Instr.checkKey; simp [run_underlying hE]
  same := fun k => by
    show Instr.sameBits (9999 + 1) (vInt k) (vInt k) = true
    simp [Instr.sameBits]
  find := fun k m es w h => by
    have := fnd_now (d := .int .i64) (kv := vInt) (vv := vv) k (fun k' => by simp only [Instr.sameNow, if_true]; rfl) m es 0 h
    unfold Instr.findKey
    simp [run_underlying hE, this]
  val := h1
  valr := h2
  flat := h3

/-- Keys that are strings. -/
theorem mapTy_str {T K E : TypeId} {α : Type} {vv : α → Value} {vd : α → D} {z : α} (hu : P.underlying T = some (.map K E)) (hE : P.underlying K = some .string) (hz : Zero P E (vv z)) (h1 : ∀ a ok w, RV P (vd a) ok w (vv a)) (h2 : ∀ a ok w v, RV P (vd a) ok w v → v = vv a) (h3 : ∀ a, (vd a).flat = true) : MapTy P T K E Value.string D.str vv vd z where
  und := hu
  zero := hz
  key := fun k ok w v h => valr_str k v h
  check := fun e k w => by unfold Instr.checkKey; simp [run_underlying hE]
  same := fun k => by
    show Instr.sameBits (9999 + 1) (.string k) (.string k) = true
    simp [Instr.sameBits, bytes_beq]
  find := fun k m es w h => by
    have := fnd_now (d := .string) (kv := Value.string) (vv := vv) k (fun k' => by simp only [Instr.sameNow, bytes_beq]) m es 0 h
    unfold Instr.findKey
    simp [run_underlying hE, this]
  val := h1
  valr := h2
  flat := h3
end
end Go.Um
