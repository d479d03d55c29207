/- Structs that hold maps; receivers; strings of bytes. No condition. -/
import Derived.Test.YtpjenbbalengoaaMap
namespace Go.Um
open Go Go.RowKit
abbrev dby (n : Int) : D := .int .u8 n
abbrev bytes (l : List Int) : D := .list 1 dby 0 l

section
variable {P : Program} {n : Nat} {ops : Array Oper} {s : St} {o : Oper}

theorem p_nilRef {x : Operand} {ob u off : Nat} {c : AV} (ho : o.op = .nilCheck x) (hx : Sees (ev s x) (.ref ob u off)) (hb : s ob = .box u c) : PStep P o (ob :: kx x) s (.ref ob u off) := by
  intro X t a w β ν hk hr
  obtain ⟨b, cs, ty, h1, h2, h3, h4, h5⟩ := hr.atBox hk hx hb
  have hob : t ob = .box u c := by rw [hk ob (by simp), hb]
  exact ⟨rfl, .pointer (some ⟨b, off, none⟩), by simp [execOp, ho, h1], ⟨_, u, rfl, by rw [hob]; rfl, Nat.le_refl _, fun _ _ => ⟨b, h2, rfl⟩⟩⟩
theorem p_nilPtr {x : Operand} {d : D} (ho : o.op = .nilCheck x) (hx : Sees (ev s x) (.ptr d)) : PStep P o (kx x) s (.ptr d) := by
  intro X t a w β ν hk hr
  have hv := hr.sees hk hx
  obtain ⟨p, cs, e, h⟩ := hv
  simp only [List.cons.injEq, and_true] at e
  exact ⟨rfl, .pointer (some p), by simp [execOp, ho, e], ⟨p, cs, rfl, h⟩⟩

/-- 'string(b)', b of bytes. -/
theorem p_bytesStr {x : Operand} {T T' e : TypeId} {xs : List Int} {z : Int} (ho : o.op = .convert T T' x) (hT : IsSlice P T e) (he : P.underlying e = some (.int .u8)) (hd : P.underlying T' = some .string) (hx : Sees (ev s x) (.val (.list 1 dby z xs))) :
    PStep P o (kx x) s (.val (.str (strOfNums xs))) := by
  intro X t a w β ν hk hr
  obtain ⟨v, e1, hv⟩ := hr.sees hk hx
  simp only [List.cons.injEq, and_true] at e1
  obtain ⟨hag, hR⟩ := hv
  simp only [R] at hR
  obtain ⟨ad, cap, e2, h1, h2, h3, h4⟩ := hR
  have e3 : v = .slice ad xs.length cap := by
    clear e1 h4
    cases v <;> simp_all [Value.cells, vAgg, D.isAgg]
  refine ⟨rfl, .string (strOfNums xs), ?_, mk_str _ _⟩
  cases ad with
  | none =>
    have hx0 : xs = [] := by
      cases xs with
      | nil => rfl
      | cons y ys => obtain ⟨p, cs, q, _⟩ := h4 0 (by simp); cases q
    subst hx0
    have := run_convert_bytes_nil (P := P) (w := w) T e hT he 0 cap T' hd
    have e0 : strOfNums [] = ByteArray.empty := rfl
    rw [e0]
    simp [execOp, ho, e1, e3, this]
  | some p =>
    by_cases hx0 : xs.length = 0
    · have hx1 := List.eq_nil_of_length_eq_zero hx0
      subst hx1
      have hl : (loadCells p 0).run P w = .ok (([] : List Int).map (Value.int .u8)).toArray w := by simp [loadCells, loadCellsFrom]
      have hc := run_convert_bytes_string (P := P) w T T' e (some p) 0 cap hT he hd
      rw [run_bytesToString w p 0 cap [] hl] at hc
      have e0 : strOfNums [] = ByteArray.empty := rfl
      simp [execOp, ho, e1, e3, hc, e0]
    · obtain ⟨p', cs, q, hsp, _⟩ := h4 0 (by omega)
      cases q
      have ep : (⟨p.block, p.off, none⟩ : Addr) = p := by rw [← hsp]
      have := run_convert_bytes_arg (P := P) (w := w) T e hT he p.block p.off xs.length cap xs rfl (fun i hi => by
        obtain ⟨p2, cs, q, _, _, hl, _, hc, hR⟩ := h4 i hi
        cases q
        have := hc 0 (by rw [hR]; simp)
        simp only [Nat.mul_one, Nat.add_zero] at this
        rw [this]
        simp [hR, List.getD_eq_getElem?_getD, hi]) T' hd
      rw [ep] at this
      simp [execOp, ho, e1, e3, this]

/-- A value that takes one cell, whatever else the state holds. -/
def OneAt (P : Program) (s : St) (K : List Nat) (y : AV) : Prop := ∀ (X : Cx) (t : St) (a : Act) (w : World) (β : Nat → Option Nat) (ν : Nat → Value) (v : Value), (∀ k ∈ K, t k = s k) → RelB P X t a w β ν → VR P (okAt X t β w) w t β ν y [v] → v.oneCell' = true
theorem oneAt_val {d : D} (h : d.one = true) : OneAt P s [] (.val d) := fun _ _ _ _ _ _ _ _ _ hv => oneCell_of_VR h hv
theorem oneAt_emp : OneAt P s [] .emp := fun _ _ _ _ _ _ _ _ _ hv => by simp only [VR, List.cons.injEq, and_true] at hv; subst hv; rfl
theorem oneAt_map {o1 u : Nat} {κ α : Type} {kv : κ → Value} {vv : α → Value} {m : List (κ × α)} (hb : s o1 = .mp u kv vv m) : OneAt P s [o1] (.row o1 u) := by
  intro X t a w β ν v hk hr hv
  obtain ⟨q, k, e, h1, h2, h3⟩ := hv
  simp only [List.cons.injEq, and_true] at e
  have hob : t o1 = .mp u kv vv m := by rw [hk o1 (by simp), hb]
  rw [hob] at h1
  simp only [ver, Option.some.injEq] at h1
  have hq := h3 h1 (by rw [hob]; rfl)
  have ho := hr.obj o1
  rw [hob] at ho
  obtain ⟨b, es, cl, g1, _⟩ := ho
  rw [e, hq, g1]
  rfl

/-- The parts of a struct, each in one cell. -/
def PartsV (P : Program) (s : St) (ps : List (Nat × Nat)) : List (Nat × Operand) → List Nat → List (Nat × AV) → Prop
  | [], K, ys => K = [] ∧ ys = []
  | (i, x) :: l, K, ys => ∃ off y K1 K2 ys', K = K1 ++ (kx x ++ K2) ∧ ys = (off, y) :: ys' ∧ ps[i]? = some (off, 1) ∧ Sees (ev s x) y ∧ OneAt P s K1 y ∧ PartsV P s ps l K2 ys'
def AV.setAll (c : AV) : List (Nat × AV) → AV
  | [] => c
  | (i, y) :: l => AV.setAll (c.set i y) l
theorem AV.set_len : ∀ (c : AV) (i : Nat) (x : AV), (c.set i x).len = c.len
  | .ccons a b, 0, x => rfl
  | .ccons a b, i + 1, x => by simp [AV.set, AV.len, AV.set_len b i x]
  | .cnil, _, _ => by simp [AV.set]
  | .any, _, _ => by simp [AV.set]
  | .both .., _, _ => by simp [AV.set]
  | .val .., _, _ => by simp [AV.set]
  | .emp, _, _ => by simp [AV.set]
  | .ptr .., _, _ => by simp [AV.set]
  | .ref .., _, _ => by simp [AV.set]
  | .elt .., _, _ => by simp [AV.set]
  | .sub .., _, _ => by simp [AV.set]
  | .etl .., _, _ => by simp [AV.set]
  | .bsl .., _, _ => by simp [AV.set]
  | .row .., _, _ => by simp [AV.set]
  | .clo .., _, _ => by simp [AV.set]
  | .sv .., _, _ => by simp [AV.set]
  | .gv .., _, _ => by simp [AV.set]
  | .dead .., _, _ => by simp [AV.set]
  | .box .., _, _ => by simp [AV.set]
  | .arr .., _, _ => by simp [AV.set]
  | .mp .., _, _ => by simp [AV.set]
  | .tl .., _, _ => by simp [AV.set]

theorem fill_partsV {X : Cx} {t : St} {a : Act} {w : World} {β : Nat → Option Nat} {ν : Nat → Value} (hr : RelB P X t a w β ν) {ps : List (Nat × Nat)} : ∀ (l : List (Nat × Operand)) (K : List Nat) (ys : List (Nat × AV)) (c : AV) (cells : Array Value),
    (∀ k ∈ K, t k = s k) → PartsV P s ps l K ys → (∀ p ∈ ys, p.1 < c.len) → c.len ≤ cells.size → (∀ q ∈ cells.toList, q.oneCell' = true) → VR P (okAt X t β w) w t β ν c cells.toList →
    ∃ cells' : Array Value, Instr.fill (ps.toArray[·]?) cells (l.map fun p => (p.1, a.eval p.2)) = some cells' ∧ (∀ q ∈ cells'.toList, q.oneCell' = true) ∧ VR P (okAt X t β w) w t β ν (c.setAll ys) cells'.toList
  | [], K, ys, c, cells, _, hp, _, _, h1, hR => by obtain ⟨_, rfl⟩ := hp; exact ⟨cells, rfl, h1, hR⟩
  | (i, x) :: l, K, ys, c, cells, hk, hp, hlt, hlen, h1, hR => by
    obtain ⟨off, y, K1, K2, ys', rfl, rfl, g1, g2, g3, g4⟩ := hp
    have hv := hr.sees (fun k hk' => hk k (by simp [hk'])) g2
    have hone := g3 X t a w β ν _ (fun k hk' => hk k (by simp [hk'])) hr hv
    have hcl : (a.eval x).cells = #[a.eval x] := by
      generalize a.eval x = q at hone
      cases q <;> simp_all [Value.cells, Value.oneCell']
    have ho : off < c.len := hlt (off, y) (by simp)
    obtain ⟨cells', q1, q2, q3⟩ := fill_partsV hr l K2 ys' (c.set off y) (cells.setIfInBounds off (a.eval x)) (fun k hk' => hk k (by simp [hk'])) g4
      (fun p hp' => by rw [AV.set_len]; exact hlt p (by simp [hp'])) (by rw [AV.set_len]; simpa using hlen) (fun q hq => by
        have hq' : q ∈ cells.toList.set off (a.eval x) := by simpa using hq
        rcases List.mem_or_eq_of_mem_set hq' with h | h
        · exact h1 q h
        · rw [h]; exact hone) (by simpa using VR_set c off y _ hR ho hv)
    refine ⟨cells', ?_, q2, q3⟩
    have hps : ps.toArray[i]? = some (off, 1) := by simpa using g1
    simp only [List.map_cons, Instr.fill, hps, hcl]
    have : ¬ cells.size < off + 1 := by omega
    simpa [this] using q1

theorem p_buildV {T : TypeId} {l : List (Nat × Operand)} {z : Value} {ps : List (Nat × Nat)} {K : List Nat} {ys : List (Nat × AV)} (ho : o.op = .build T l.toArray) (hp : Places P T ps) (hz : Zero P T z) (hz1 : z.cells.toList.all (·.oneCell') = true) (hzl : Nat.ble (zChain z.cells.toList).len z.cells.size = true)
    (hl : PartsV P s ps l K ys) (hlt : ys.all (fun p => Nat.blt p.1 (zChain z.cells.toList).len) = true) : PStep P o K s (.sv ((zChain z.cells.toList).setAll ys)) := by
  intro X t a w β ν hk hr
  obtain ⟨cells', g1, g2, g3⟩ := fill_partsV hr l K ys (zChain z.cells.toList) z.cells hk hl (fun p hp' => blt_lt (List.all_eq_true.1 hlt p hp')) (Nat.le_of_ble_eq_true hzl) (fun q hq => List.all_eq_true.1 hz1 q hq) (zChain_ok _)
  refine ⟨rfl, .agg cells', ?_, ⟨cells', rfl, g2, g3⟩⟩
  have hb : P.built T (l.toArray.map fun p => (p.1, a.eval p.2)).toList = some cells' := by
    unfold Places at hp
    unfold Zero at hz
    obtain ⟨d, q1, q2⟩ := Option.bind_eq_some_iff.1 hp
    obtain ⟨i, q3, q4⟩ := Option.bind_eq_some_iff.1 hz
    cases d <;> simp at q2
    unfold Program.built
    simp only [q1, q3, q4, q2]
    simpa using g1
  have := run_build (P := P) w T (l.toArray.map fun p => (p.1, a.eval p.2)) cells' hb
  simp [execOp, ho]
  simp at this
  rw [this]
  rfl
end
end Go.Um
