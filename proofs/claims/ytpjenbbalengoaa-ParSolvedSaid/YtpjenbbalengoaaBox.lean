/- The rules for variables in memory and for structs. No condition. -/
import Derived.Test.YtpjenbbalengoaaObj
namespace Go.Um
open Go Go.RowKit

theorem oneCell_of_VR {P : Program} {ok : Nat → Prop} {w : World} {s : St} {β : Nat → Option Nat} {ν : Nat → Value} {d : D} {v : Value} (hd : d.one = true) (h : VR P ok w s β ν (.val d) [v]) : v.oneCell' = true := by
  obtain ⟨u, e, h⟩ := h
  simp only [List.cons.injEq, and_true] at e
  subst e
  exact (RV_one hd h).2

section
variable {P : Program} {n : Nat} {ops : Array Oper} {s : St} {o : Oper}

theorem heap_new (w : World) (ob : Obj) : (w.alloc ob).heap[w.heap.size]? = some ob := by
  show (w.heap.push ob)[w.heap.size]? = _
  simp

/-- What a value that is boxed lays into memory. -/
def boxOf : AV → AV
  | .val (.agg c) => c.toAV
  | .sv c => c
  | x => .ccons x .cnil
def boxOk : AV → Bool
  | .val (.agg c) => c.flat1
  | .val d => d.one
  | .emp => true
  | .clo .. => true
  | .sv _ => true
  | _ => false

theorem boxed {ok : Nat → Prop} {w : World} {t : St} {β : Nat → Option Nat} {ν : Nat → Value} {x : AV} {v : Value} (hb : boxOk x = true) (h : VR P ok w t β ν x [v]) :
    VR P ok w t β ν (boxOf x) v.cells.toList ∧ ∀ c ∈ v.cells.toList, c.oneCell' = true := by
  have one : ∀ {x : AV}, v.oneCell' = true → VR P ok w t β ν x [v] → VR P ok w t β ν (.ccons x .cnil) v.cells.toList ∧ ∀ c ∈ v.cells.toList, c.oneCell' = true := by
    intro x h1 h2
    have : v.cells.toList = [v] := by cases v <;> simp_all [Value.cells, Value.oneCell']
    rw [this]
    exact ⟨⟨v, [], rfl, h2, rfl⟩, by simpa using h1⟩
  cases x with
  | val d =>
    cases d with
    | agg c =>
      obtain ⟨u, e, h1, h2⟩ := h
      simp only [List.cons.injEq, and_true] at e
      subst e
      have := R_toAV (s := t) (β := β) (ν := ν) c hb h2
      exact ⟨this.1, this.2.1⟩
    | int k m => exact one (oneCell_of_VR rfl h) h
    | bool b => exact one (oneCell_of_VR rfl h) h
    | str b => exact one (oneCell_of_VR rfl h) h
    | list sz f z xs => exact one (oneCell_of_VR rfl h) h
    | fn f g => exact one (oneCell_of_VR rfl h) h
    | sl b d => exact one (oneCell_of_VR rfl h) h
    | any => exact one (oneCell_of_VR rfl h) h
    | ptr d => exact one (oneCell_of_VR rfl h) h
    | clp d => exact one (oneCell_of_VR rfl h) h
    | ifc T d => exact one (oneCell_of_VR rfl h) h
    | nil => cases hb
    | cons => cases hb
    | tup => cases hb
  | emp => exact one (by simp only [VR, List.cons.injEq, and_true] at h; subst h; rfl) h
  | clo f c => exact one (by obtain ⟨caps, e, _⟩ := h; simp only [List.cons.injEq, and_true] at e; subst e; rfl) h
  | sv c =>
    obtain ⟨cs, e, h0, h1⟩ := h
    simp only [List.cons.injEq, and_true] at e
    subst e
    exact ⟨h1, h0⟩
  | _ => cases hb

theorem newBox {K : List Nat} {d ob : Nat} {T : TypeId} {c : AV} (hd : o.dst = some d) (hg : o.guard = none) (hob : Nat.blt 9999 ob = true) (hn : Nat.blt d n = true) (h4 : Nat.blt d 10000 = true)
    (h : ∀ (X : Cx) (t : St) (a : Act) (w : World) (β : Nat → Option Nat) (ν : Nat → Value), (∀ k ∈ K, t k = s k) → RelB P X t a w β ν →
      ∃ cs : Array Value, (execOp a.eval o).run P w = .ok (.value (.pointer (some ⟨w.heap.size, 0, none⟩))) (w.alloc (.cells cs T)) ∧ (∀ v ∈ cs.toList, v.oneCell' = true) ∧ VR P (okAt X t β w) w t β ν c cs.toList) :
    LStep P n ops o (ob :: K, [d, ob]) s (upd (upd s ob (.box (newVer (s ob)) c)) d (.ref ob (newVer (s ob)) 0)) := by
  refine ⟨off_two, fun X t a w hX hk hr Q => ?_⟩
  obtain ⟨β, ν, hr⟩ := hr
  obtain ⟨cs, h1, h2, h3⟩ := h X t a w β ν (fun k hk' => hk k (by simp [hk'])) hr
  refine opWp_run (by simp [Region.wanted, hg]) h1 ?_
  have hob' := blt_lt hob
  have hd4 := blt_lt h4
  rw [ovr_two (by omega), hd]
  have hto : t ob = s ob := hk ob (by simp)
  refine ⟨updF β ob (some w.heap.size), updF ν ob undef, hr.newObj (Kill.refl t) (by omega) (by rw [hX]; exact blt_lt hn) hd4 rfl rfl ⟨rfl, Nat.le_refl _⟩ (by simp) (fun b hb => .inl (Below.heap_alloc _ _ _ hb)) (fun b hb => .inl ?_) (by rw [hto]; rfl) rfl ?_⟩
  · cases hb; simp
  · intro hok hgo
    refine ⟨⟨w.heap.size, cs, T, updF_same .., heap_new w _, h2, VR_mono hok (by simp) hgo _ h3⟩, ?_⟩
    refine ⟨_, newVer (s ob), rfl, ?_, Nat.le_refl _, fun _ _ => ⟨w.heap.size, updF_same .., rfl⟩⟩
    rw [upd_ne _ _ (by omega), upd_same]
    rfl

theorem r_box {x : Operand} {d ob : Nat} {T : TypeId} {y : AV} (ho : o.op = .box T x) (hx : Sees (ev s x) y) (hy : boxOk y = true) (hd : o.dst = some d) (hg : o.guard = none) (hob : Nat.blt 9999 ob = true) (hn : Nat.blt d n = true) (h4 : Nat.blt d 10000 = true) :
    LStep P n ops o (ob :: kx x, [d, ob]) s (upd (upd s ob (.box (newVer (s ob)) (boxOf y))) d (.ref ob (newVer (s ob)) 0)) := by
  refine newBox (T := T) hd hg hob hn h4 (fun X t a w β ν hk hr => ?_)
  obtain ⟨h1, h2⟩ := boxed hy (hr.sees hk hx)
  exact ⟨(a.eval x).cells, by simp [execOp, ho, Instr.box, newVar, newRow, newObj, Sem.run], h2, h1⟩

/-- The zero value of a type, as abstract cells. -/
def zAV : Value → AV
  | .int k n => .val (.int k n)
  | .bool b => .val (.bool b)
  | .string b => .val (.str b)
  | .slice none 0 0 => .emp
  | _ => .any
def zChain : List Value → AV
  | [] => .cnil
  | v :: vs => .ccons (zAV v) (zChain vs)
def Zero (P : Program) (T : TypeId) (z : Value) : Prop := (P.info? T).bind (·.zero) = some z

theorem zAV_ok {ok : Nat → Prop} {w : World} {t : St} {β : Nat → Option Nat} {ν : Nat → Value} (v : Value) : VR P ok w t β ν (zAV v) [v] := by
  unfold zAV
  split <;> simp_all [VR, RV, R, vAgg, D.isAgg, Value.cells]
theorem zChain_ok {ok : Nat → Prop} {w : World} {t : St} {β : Nat → Option Nat} {ν : Nat → Value} : ∀ (vs : List Value), VR P ok w t β ν (zChain vs) vs
  | [] => rfl
  | v :: vs => ⟨v, vs, rfl, zAV_ok v, zChain_ok vs⟩

theorem run_zero {T : TypeId} {z : Value} (h : Zero P T z) (w : World) : (zeroValue T).run P w = .ok z w := by
  unfold Zero at h
  obtain ⟨i, hi, hz⟩ := Option.bind_eq_some_iff.1 h
  simp [zeroValue, typeInfo, hi, hz]

theorem r_alloc {d ob : Nat} {T : TypeId} {z : Value} (ho : o.op = .alloc T) (hz : Zero P T z) (h1 : z.cells.toList.all (·.oneCell') = true) (hd : o.dst = some d) (hg : o.guard = none) (hob : Nat.blt 9999 ob = true) (hn : Nat.blt d n = true) (h4 : Nat.blt d 10000 = true) :
    LStep P n ops o (ob :: [], [d, ob]) s (upd (upd s ob (.box (newVer (s ob)) (zChain z.cells.toList))) d (.ref ob (newVer (s ob)) 0)) := by
  refine newBox (T := T) hd hg hob hn h4 (fun X t a w β ν hk hr => ?_)
  exact ⟨z.cells, by simp [execOp, ho, Instr.alloc, newVar, newRow, newObj, Sem.run, run_zero hz], fun v hv => (List.all_eq_true.1 h1) v hv, zChain_ok _⟩

/-! ### Looking into a box -/

theorem RelB.atBox {X : Cx} {t : St} {a : Act} {w : World} {β : Nat → Option Nat} {ν : Nat → Value} (hr : RelB P X t a w β ν) {x : Operand} {ob u off : Nat} {c : AV} (hk : ∀ k ∈ ob :: kx x, t k = s k) (hx : Sees (ev s x) (.ref ob u off)) (hb : s ob = .box u c) :
    ∃ b cs ty, a.eval x = .pointer (some ⟨b, off, none⟩) ∧ β ob = some b ∧ w.heap[b]? = some (.cells cs ty (0, 0)) ∧ (∀ v ∈ cs.toList, v.oneCell' = true) ∧ VR P (okAt X t β w) w t β ν c cs.toList := by
  obtain ⟨v, k, e, h1, h2, h3⟩ := hr.sees (fun k hk' => hk k (by simp [hk'])) hx
  simp only [List.cons.injEq, and_true] at e
  have hob : t ob = .box u c := by rw [hk ob (by simp), hb]
  rw [hob] at h1
  simp only [ver, Option.some.injEq] at h1
  obtain ⟨b, h4, h5⟩ := h3 h1 (by rw [hob]; rfl)
  have ho := hr.obj ob
  rw [hob] at ho
  obtain ⟨b', cs, ty, g1, g2, g3, g4⟩ := ho
  rw [h4] at g1
  cases g1
  exact ⟨b, cs, ty, by rw [e, h5], h4, g2, g3, g4⟩

/-- A load of one cell of a box. -/
theorem p_loadB {x : Operand} {T ob u off : Nat} {c y : AV} (ho : o.op = .load T x) (hT : IsAgg P T false) (hx : Sees (ev s x) (.ref ob u off)) (hb : s ob = .box u c) (hi : Nat.blt off c.len = true) (hy : c.nth off = y) (hv : ver y = none) :
    PStep P o (ob :: kx x) s y := by
  intro X t a w β ν hk hr
  obtain ⟨b, cs, ty, h1, h2, h3, h4, h5⟩ := hr.atBox hk hx hb
  obtain ⟨v, g1, g2⟩ := VR_nth c off h5 (blt_lt hi)
  rw [hy] at g2
  refine ⟨hv, v, ?_, g2⟩
  have hc : w.cell? ⟨b, off, none⟩ = some v := by simp only [World.cell?, h3]; simpa using g1
  simp [execOp, ho, Instr.loadAt, h1, Instr.sureAddr, loadVar, run_isAgg hT, hc]

/-- A load of a whole struct out of a box. -/
theorem p_loadBS {x : Operand} {T k ob u : Nat} {c : AV} (ho : o.op = .load T x) (hT : IsAgg P T true) (hs : Size P T k) (hx : Sees (ev s x) (.ref ob u 0)) (hb : s ob = .box u c) (hc : c.isD = true) (hk' : c.len = k) :
    PStep P o (ob :: kx x) s (.val (.agg c.toD)) := by
  intro X t a w β ν hk hr
  obtain ⟨b, cs, ty, h1, h2, h3, h4, h5⟩ := hr.atBox hk hx hb
  obtain ⟨g1, g2, g3⟩ := VR_toD c hc h5
  refine ⟨rfl, .agg cs, ?_, ⟨_, rfl, rfl, by simpa [R, Value.cells] using g1⟩⟩
  have hlc := run_loadCells_list (P := P) w ⟨b, 0, none⟩ cs.toList (fun j v hj => by
    rw [Addr.add_none rfl]
    simp only [World.cell?, h3]
    simpa using hj)
  rw [show cs.toList.length = k by omega] at hlc
  simp [execOp, ho, Instr.loadAt, h1, Instr.sureAddr, loadVar, run_isAgg hT, run_sizeOf hs, hlc]

theorem p_fieldRef {x : Operand} {T i off ft k ob u : Nat} {c : AV} (ho : o.op = .fieldAddr T x i) (hF : IsField P T i off ft) (hs : Size P ft k) (hk0 : Nat.blt 0 k = true) (hx : Sees (ev s x) (.ref ob u 0)) (hb : s ob = .box u c) :
    PStep P o (ob :: kx x) s (.ref ob u off) := by
  intro X t a w β ν hk hr
  obtain ⟨b, cs, ty, h1, h2, h3, h4, h5⟩ := hr.atBox hk hx hb
  have hob : t ob = .box u c := by rw [hk ob (by simp), hb]
  refine ⟨rfl, .pointer (some ⟨b, off, none⟩), ?_, ⟨_, u, rfl, by rw [hob]; rfl, Nat.le_refl _, fun _ _ => ⟨b, h2, rfl⟩⟩⟩
  unfold IsField at hF
  obtain ⟨dsc, q1, q2⟩ := Option.bind_eq_some_iff.1 hF
  cases dsc <;> simp at q2
  rename_i fs
  obtain ⟨fld, q3, q4, q5⟩ := q2
  subst q4 q5
  have hne : k ≠ 0 := by have := blt_lt hk0; omega
  simp [execOp, ho, Instr.fieldAt, h1, Instr.sureAddr, run_underlying' q1, q3, fieldPlace, run_sizeOf hs, hne, Addr.add_none]

/-! ### Stores into a box -/

/-- The content of a box is put anew; its version stays. -/
theorem RelB.setBox {X : Cx} {t : St} {a : Act} {w : World} {β : Nat → Option Nat} {ν : Nat → Value} (hr : RelB P X t a w β ν) {ob u b : Nat} {c c' : AV} {cs cs' : Array Value} {ty : TypeId} (h4 : 10000 ≤ ob) (hb : t ob = .box u c)
    (hβ : β ob = some b) (hh : w.heap[b]? = some (.cells cs ty (0, 0))) (h1 : ∀ v ∈ cs'.toList, v.oneCell' = true) (hv : VR P (okAt X t β w) w t β ν c' cs'.toList) :
    RelB P X (upd t ob (.box u c')) a (w.setRow b cs') β ν := by
  have hlv : ∀ o, live (upd t ob (.box u c') o) = live (t o) ∧ ver (upd t ob (.box u c') o) = ver (t o) := by
    intro o
    by_cases e : o = ob
    · subst e; rw [upd_same, hb]; exact ⟨rfl, rfl⟩
    · rw [upd_ne _ _ e]; exact ⟨rfl, rfl⟩
  have hlob : live (t ob) = true := by rw [hb]; rfl
  have hgoes : Goes t (upd t ob (.box u c')) β β ν ν := fun o k hk => ⟨k, by rw [(hlv o).2]; exact hk, Nat.le_refl _, fun _ hl => ⟨by rw [← (hlv o).1]; exact hl, rfl, rfl⟩⟩
  have hok : ∀ b', okAt X t β w b' → okAt X (upd t ob (.box u c')) β (w.setRow b cs') b' ∧ (w.setRow b cs').heap[b']? = w.heap[b']? := by
    intro b' hb'
    refine ⟨⟨hb'.1, by simpa using hb'.2.1, fun o hl => hb'.2.2 o (by rw [← (hlv o).1]; exact hl)⟩, ?_⟩
    exact setRow_other w b b' cs' (fun e => hb'.2.2 ob hlob (by rw [hβ, e]))
  refine hr.move rfl rfl ⟨rfl, Nat.le_refl _⟩ (by simp) ?_ hok hgoes ?_ ?_ ?_ ?_ ?_ rfl rfl (fun hv => .inl (upd_ne _ _ (by intro e; rw [e, upd_same] at hv; cases hv)))
  · intro b' hb' hn
    refine setRow_other w b b' cs' (fun e => ?_)
    subst e
    rcases (hr.own ob b' hlob hβ).1 with h | h
    · omega
    · exact hn h
  · intro o b' hl hb'; exact .inl ⟨by rw [← (hlv o).1]; exact hl, hb'⟩
  · intro o o' b' hl hl' hb1 hb2
    exact hr.inj o o' b' (by rw [← (hlv o).1]; exact hl) (by rw [← (hlv o').1]; exact hl') hb1 hb2
  · intro o hl
    by_cases e : o = ob
    · subst e
      right
      rw [upd_same]
      exact ⟨b, cs', ty, hβ, setRow_heap w b cs cs' ty _ hh, h1, VR_mono hok (by simp) hgoes _ hv⟩
    · left
      refine ⟨upd_ne _ _ e, rfl, rfl, fun b' hb' => setRow_other w b b' cs' (fun e' => e ?_)⟩
      subst e'
      exact hr.inj o ob b' (by rw [← (hlv o).1]; exact hl) hlob hb' hβ
  · intro k hk
    left
    exact ⟨upd_ne _ _ (by omega), rfl⟩
  · intro k hk
    rw [(hlv k).2]
    exact hr.keys k hk

theorem opWp_skip {Q : Exit → Act → World → Prop} {K : Act → World → Prop} {a : Act} {w w' : World} (hw : Region.wanted o (yielded ops a.tmps) = true) (hd : o.dst = none)
    (hr : (execOp a.eval o).run P w = .ok .skip w') (h : K a w') : opWp P ops Q o K a w := by
  unfold opWp
  rw [if_pos hw]
  left
  unfold Oper.wp
  rw [hr]
  simp only [Oper.upon, hd]
  exact h

/-- A store of one cell into a box. -/
theorem r_store {x y : Operand} {T ob u off : Nat} {c v : AV} (ho : o.op = .store T x y) (hs : Size P T 1) (hd : o.dst = none) (hg : o.guard = none) (hob : Nat.blt 9999 ob = true) (hx : Sees (ev s x) (.ref ob u off)) (hb : s ob = .box u c) (hi : Nat.blt off c.len = true) (hy : Sees (ev s y) v)
    (h1 : ∀ {P : Program} {ok : Nat → Prop} {w : World} {s : St} {β : Nat → Option Nat} {ν : Nat → Value} {q : Value}, VR P ok w s β ν v [q] → q.oneCell' = true) :
    LStep P n ops o ((ob :: kx x) ++ kx y, [ob]) s (upd s ob (.box u (c.set off v))) := by
  refine ⟨upd_off, fun X t a w hX hk hr Q => ?_⟩
  obtain ⟨β, ν, hr⟩ := hr
  obtain ⟨b, cs, ty, g1, g2, g3, g4, g5⟩ := hr.atBox (kl hk) hx hb
  have hv := hr.sees (kr hk) hy
  have hv1 := h1 hv
  have hlt : off < cs.size := by
    obtain ⟨q, hq, _⟩ := VR_nth c off g5 (blt_lt hi)
    have := (List.getElem?_eq_some_iff.1 hq).1
    simpa using this
  have hcl : (a.eval y).cells.toList = [a.eval y] := by
    generalize a.eval y = q at hv1
    cases q <;> simp_all [Value.cells, Value.oneCell']
  have hcz : (a.eval y).cells.size = 1 := by rw [← Array.length_toList, hcl]; rfl
  have hrun : (execOp a.eval o).run P w = .ok .skip (w.setRow b (cs.toList.set off (a.eval y)).toArray) := by
    have hst := run_storeCells_at (P := P) b off ty [a.eval y] 0 cs w g3 (by simp; omega) (by simpa using hv1)
    have e : (cs.toList.take (off + 0) ++ [a.eval y] ++ cs.toList.drop (off + 0 + [a.eval y].length)) = cs.toList.set off (a.eval y) := by
      simp only [Nat.add_zero, List.length_singleton, List.append_assoc, List.singleton_append]
      rw [List.set_eq_take_append_cons_drop]
      simp [hlt]
    rw [e] at hst
    simp [execOp, ho, Instr.storeAt, g1, Instr.sureAddr, storeVar, run_sizeOf hs, hcz, hcl, hst]
  refine opWp_skip (by simp [Region.wanted, hg]) hd hrun ?_
  rw [ovr_one]
  have hob' := blt_lt hob
  refine ⟨β, ν, hr.setBox (by omega) (by rw [hk ob (by simp), hb]) g2 g3 ?_ ?_⟩
  · intro q hq
    rcases List.mem_or_eq_of_mem_set hq with h | h
    · exact g4 q h
    · rw [h]; exact hv1
  · exact VR_set c off v _ g5 (blt_lt hi) hv

theorem one_val {d : D} (hd : d.one = true) : ∀ {P : Program} {ok : Nat → Prop} {w : World} {s : St} {β : Nat → Option Nat} {ν : Nat → Value} {q : Value}, VR P ok w s β ν (.val d) [q] → q.oneCell' = true := fun h => oneCell_of_VR hd h
theorem one_emp : ∀ {P : Program} {ok : Nat → Prop} {w : World} {s : St} {β : Nat → Option Nat} {ν : Nat → Value} {q : Value}, VR P ok w s β ν .emp [q] → q.oneCell' = true := fun h => by
  simp only [VR, List.cons.injEq, and_true] at h; subst h; rfl
theorem one_clo {f : FuncId} {c : AV} : ∀ {P : Program} {ok : Nat → Prop} {w : World} {s : St} {β : Nat → Option Nat} {ν : Nat → Value} {q : Value}, VR P ok w s β ν (.clo f c) [q] → q.oneCell' = true := fun h => by
  obtain ⟨caps, e, _⟩ := h; simp only [List.cons.injEq, and_true] at e; subst e; rfl

/-- A store of a struct into a whole box. -/
theorem r_storeS {x y : Operand} {T k ob u : Nat} {c : AV} {e : D} (ho : o.op = .store T x y) (hs : Size P T k) (hd : o.dst = none) (hg : o.guard = none) (hob : Nat.blt 9999 ob = true) (hx : Sees (ev s x) (.ref ob u 0)) (hb : s ob = .box u c) (hy : Sees (ev s y) (.val (.agg e)))
    (he : e.flat1 = true) (hl : e.len = k) (hl' : c.len = k) (hch : c.chain = true) :
    LStep P n ops o ((ob :: kx x) ++ kx y, [ob]) s (upd s ob (.box u e.toAV)) := by
  refine ⟨upd_off, fun X t a w hX hk hr Q => ?_⟩
  obtain ⟨β, ν, hr⟩ := hr
  obtain ⟨b, cs, ty, g1, g2, g3, g4, g5⟩ := hr.atBox (kl hk) hx hb
  obtain ⟨q, e1, hq1, hq2⟩ := hr.sees (kr hk) hy
  simp only [List.cons.injEq, and_true] at e1
  subst e1
  obtain ⟨r1, r2, r3⟩ := R_toAV (s := t) (β := β) (ν := ν) e he hq2
  have hlen : cs.size = k := by
    have : ∀ (c : AV) (cs : List Value), c.chain = true → VR P (okAt X t β w) w t β ν c cs → cs.length = c.len := by
      intro c
      induction c with
      | cnil => intro cs _ h; simp only [VR] at h; subst h; rfl
      | ccons a b iha ihb => intro cs h1 h; obtain ⟨v, vs, rfl, _, h2⟩ := h; simp [AV.len, ihb vs h1 h2]
      | _ => intro cs h1 _; cases h1
    have := this c cs.toList hch g5
    simp at this
    omega
  have hsz : (a.eval y).cells.size = k := by rw [← Array.length_toList, r3, hl]
  have hrun : (execOp a.eval o).run P w = .ok .skip (w.setRow b (a.eval y).cells) := by
    have hst := run_storeCells_at (P := P) b 0 ty (a.eval y).cells.toList 0 cs w g3 (by simp; omega) r2
    have e : (cs.toList.take (0 + 0) ++ (a.eval y).cells.toList ++ cs.toList.drop (0 + 0 + (a.eval y).cells.toList.length)).toArray = (a.eval y).cells := by
      rw [List.drop_of_length_le (by simp; omega)]
      simp
    rw [e] at hst
    simp [execOp, ho, Instr.storeAt, g1, Instr.sureAddr, storeVar, run_sizeOf hs, hsz, hst]
  refine opWp_skip (by simp [Region.wanted, hg]) hd hrun ?_
  rw [ovr_one]
  have hob' := blt_lt hob
  exact ⟨β, ν, hr.setBox (by omega) (by rw [hk ob (by simp), hb]) g2 g3 r2 r1⟩

/-! ### Structs built -/

def D.setNth : D → Nat → D → D
  | .cons _ b, 0, x => .cons x b
  | .cons a b, i + 1, x => .cons a (b.setNth i x)
  | c, _, _ => c

theorem R_setNth {ok : Nat → Prop} {w : World} : ∀ (c : D) {cs : List Value} (i : Nat) (x : D) (v : Value), R P c ok w cs → i < c.len → RV P x ok w v → R P (c.setNth i x) ok w (cs.set i v)
  | .cons a b, cs, i, x, v, h, hi, hx => by
    obtain ⟨u, vs, rfl, h1, h2, h3⟩ := h
    cases i with
    | zero => exact ⟨v, vs, rfl, hx.1, hx.2, h3⟩
    | succ i => exact ⟨u, vs.set i v, rfl, h1, h2, R_setNth b i x v h3 (by simpa [D.len] using hi) hx⟩
  | .int .., _, _, _, _, _, hi, _ => by simp [D.len] at hi
  | .bool .., _, _, _, _, _, hi, _ => by simp [D.len] at hi
  | .str .., _, _, _, _, _, hi, _ => by simp [D.len] at hi
  | .nil, _, _, _, _, _, hi, _ => by simp [D.len] at hi
  | .agg .., _, _, _, _, _, hi, _ => by simp [D.len] at hi
  | .tup .., _, _, _, _, _, hi, _ => by simp [D.len] at hi
  | .list .., _, _, _, _, _, hi, _ => by simp [D.len] at hi
  | .fn .., _, _, _, _, _, hi, _ => by simp [D.len] at hi
  | .sl .., _, _, _, _, _, hi, _ => by simp [D.len] at hi
  | .any, _, _, _, _, _, hi, _ => by simp [D.len] at hi
  | .ptr .., _, _, _, _, _, hi, _ => by simp [D.len] at hi
  | .clp .., _, _, _, _, _, hi, _ => by simp [D.len] at hi
  | .ifc .., _, _, _, _, _, hi, _ => by simp [D.len] at hi

theorem setNth_len : ∀ (c : D) (i : Nat) (x : D), (c.setNth i x).len = c.len
  | .cons a b, 0, x => rfl
  | .cons a b, i + 1, x => by simp [D.setNth, D.len, setNth_len b i x]
  | .int .., _, _ => rfl
  | .bool .., _, _ => rfl
  | .str .., _, _ => rfl
  | .nil, _, _ => rfl
  | .agg .., _, _ => rfl
  | .tup .., _, _ => rfl
  | .list .., _, _ => rfl
  | .fn .., _, _ => rfl
  | .sl .., _, _ => rfl
  | .any, _, _ => rfl
  | .ptr .., _, _ => rfl
  | .clp .., _, _ => rfl
  | .ifc .., _, _ => rfl

/-- The places of a struct's fields (offset, cells). -/
def Places (P : Program) (T : TypeId) (ps : List (Nat × Nat)) : Prop :=
  (P.underlying T).bind (fun d => match d with | .struct fs => fs.toList.mapM (fun f => (P.info? f.type).map fun i => (f.offset, i.size)) | _ => none) = some ps

/-- The parts of a struct that is built: each in one cell. -/
def Parts (s : St) (ps : List (Nat × Nat)) : List (Nat × Operand) → List (Nat × D) → Prop
  | [], ds => ds = []
  | (i, x) :: l, ds => ∃ off d ds', ds = (off, d) :: ds' ∧ ps[i]? = some (off, 1) ∧ d.one = true ∧ Sees (ev s x) (.val d) ∧ Parts s ps l ds'

def setAll (c : D) : List (Nat × D) → D
  | [] => c
  | (i, d) :: l => setAll (c.setNth i d) l

def kxs : List (Nat × Operand) → List Nat
  | [] => []
  | (_, x) :: l => kx x ++ kxs l

theorem fill_parts {X : Cx} {t : St} {a : Act} {w : World} {β : Nat → Option Nat} {ν : Nat → Value} (hr : RelB P X t a w β ν) {ps : List (Nat × Nat)} : ∀ (l : List (Nat × Operand)) (ds : List (Nat × D)) (c : D) (cells : Array Value),
    (∀ k ∈ kxs l, t k = s k) → Parts s ps l ds → (∀ p ∈ ds, p.1 < c.len) → c.len ≤ cells.size → R P c (okAt X t β w) w cells.toList →
    ∃ cells' : Array Value, Instr.fill (ps.toArray[·]?) cells (l.map fun p => (p.1, a.eval p.2)) = some cells' ∧ R P (setAll c ds) (okAt X t β w) w cells'.toList
  | [], ds, c, cells, _, hp, _, _, hR => by simp only [Parts] at hp; subst hp; exact ⟨cells, rfl, hR⟩
  | (i, x) :: l, ds, c, cells, hk, hp, hlt, hlen, hR => by
    obtain ⟨off, d, ds', rfl, h1, h2, h3, h4⟩ := hp
    obtain ⟨v, e, hv⟩ := hr.sees (fun k hk' => hk k (by simp [kxs, hk'])) h3
    simp only [List.cons.injEq, and_true] at e
    subst e
    have hone := (RV_one h2 hv).2
    have hcl : (a.eval x).cells = #[a.eval x] := by
      generalize a.eval x = q at hone
      cases q <;> simp_all [Value.cells, Value.oneCell']
    have ho : off < c.len := hlt (off, d) (by simp)
    obtain ⟨cells', g1, g2⟩ := fill_parts hr l ds' (c.setNth off d) (cells.setIfInBounds off (a.eval x)) (fun k hk' => hk k (by simp [kxs, hk'])) h4
      (fun p hp' => by rw [setNth_len]; exact hlt p (by simp [hp'])) (by rw [setNth_len]; simpa using hlen) (by simpa using R_setNth c off d _ hR ho hv)
    refine ⟨cells', ?_, g2⟩
    have hps : ps.toArray[i]? = some (off, 1) := by simpa using h1
    simp only [List.map_cons, Instr.fill, hps, hcl]
    have : ¬ cells.size < off + 1 := by omega
    simpa [this] using g1

theorem p_build {T : TypeId} {l : List (Nat × Operand)} {z : Value} {ps : List (Nat × Nat)} {zc : D} {ds : List (Nat × D)} (ho : o.op = .build T l.toArray) (hp : Places P T ps) (hz : Zero P T z) (hzl : zc.len ≤ z.cells.size)
    (hzc : ∀ (ok : Nat → Prop) (w : World), R P zc ok w z.cells.toList) (hl : Parts s ps l ds) (hlt : ds.all (fun p => Nat.blt p.1 zc.len) = true) : PStep P o (kxs l) s (.val (.agg (setAll zc ds))) := by
  intro X t a w β ν hk hr
  obtain ⟨cells', g1, g2⟩ := fill_parts hr l ds zc z.cells hk hl (fun p hp' => blt_lt (List.all_eq_true.1 hlt p hp')) hzl (hzc _ _)
  refine ⟨rfl, .agg cells', ?_, ⟨_, rfl, rfl, by simpa [R, Value.cells] using g2⟩⟩
  have hb : P.built T (l.toArray.map fun p => (p.1, a.eval p.2)).toList = some cells' := by
    unfold Places at hp
    unfold Zero at hz
    obtain ⟨d, q1, q2⟩ := Option.bind_eq_some_iff.1 hp
    obtain ⟨i, q3, q4⟩ := Option.bind_eq_some_iff.1 hz
    cases d <;> simp at q2
    unfold Program.built
    simp only [q1, q3, q4, q2]
    simpa using g1
  have := run_build (P := P) w T (l.toArray.map fun p => (p.1, a.eval p.2)) cells' hb
  simp [execOp, ho]
  simp at this
  rw [this]
  rfl
end
end Go.Um
