/- Slice literals, equality of structs, further arithmetic. No condition. -/
import Derived.Test.YtfjafkocejoigaaGreatBA
namespace Go.Um
open Go Go.RowKit

theorem foldl_set (off : Nat) : ∀ (l : List Value) (k : Nat) (cells : Array Value), off + k + l.length ≤ cells.size →
    ((l.zipIdx k).foldl (fun (cs : Array Value) (p : Value × Nat) => cs.setIfInBounds (off + p.2) p.1) cells).toList = cells.toList.take (off + k) ++ l ++ cells.toList.drop (off + k + l.length)
  | [], k, cells, _ => by simp
  | v :: l, k, cells, h => by
    simp only [List.length_cons] at h
    rw [List.zipIdx_cons, List.foldl_cons, foldl_set off l (k + 1) _ (by simp; omega)]
    have hlt : off + k < cells.toList.length := by simp; omega
    simp only [Array.toList_setIfInBounds, List.length_cons]
    rw [show off + (k + 1) = off + k + 1 by omega, List.take_succ_eq_append_getElem (by simpa using hlt)]
    rw [List.getElem_set_self, List.take_set_of_le (Nat.le_refl _), List.drop_set_of_lt (by omega), show off + k + 1 + l.length = off + k + (l.length + 1) by omega]
    simp

theorem exists_list {α : Type} (Q : Nat → α → Prop) : ∀ (n : Nat), (∀ i, i < n → ∃ x, Q i x) → ∃ xs : List α, xs.length = n ∧ ∀ i (h : i < xs.length), Q i xs[i]
  | 0, _ => ⟨[], rfl, fun i h => by simp at h⟩
  | n + 1, h => by
    obtain ⟨xs, h1, h2⟩ := exists_list Q n (fun i hi => h i (by omega))
    obtain ⟨x, hx⟩ := h n (by omega)
    refine ⟨xs ++ [x], by simp [h1], fun i hi => ?_⟩
    by_cases e : i < xs.length
    · rw [List.getElem_append_left e]; exact h2 i e
    · have : i = n := by simp at hi; omega
      subst this
      rw [List.getElem_append_right (by omega)]
      simpa [h1] using hx

def cat (vs : List Value) : List Value := vs.flatMap fun v => v.cells.toList

theorem cat_len {sz : Nat} : ∀ (vs : List Value), (∀ v ∈ vs, v.cells.size = sz) → (cat vs).length = vs.length * sz
  | [], _ => by simp [cat]
  | v :: vs, h => by
    have h1 := h v (by simp)
    have h2 := cat_len vs (fun u hu => h u (by simp [hu]))
    simp only [cat, List.flatMap_cons, List.length_append, Array.length_toList, List.length_cons] at h2 ⊢
    rw [h1, h2, Nat.add_mul, Nat.one_mul, Nat.add_comm]

theorem fill_row {sz : Nat} : ∀ (vs : List Value) (j : Nat) (cells : Array Value), (∀ v ∈ vs, v.cells.size = sz) → cells.size = (j + vs.length) * sz →
    ∃ cells' : Array Value, Instr.fill (fun i => some (i * sz, sz)) cells ((List.range' j vs.length).zip vs) = some cells' ∧ cells'.toList = cells.toList.take (j * sz) ++ cat vs
  | [], j, cells, _, hl => ⟨cells, by simp [Instr.fill], by simp at hl; rw [List.take_of_length_le (by simp; omega)]; simp [cat]⟩
  | v :: vs, j, cells, h, hl => by
    have h1 := h v (by simp)
    simp only [List.length_cons] at hl
    have hle : j * sz + sz ≤ cells.size := by
      rw [hl, show j + (vs.length + 1) = j + 1 + vs.length by omega, Nat.add_mul (j + 1), Nat.add_mul j 1, Nat.one_mul]
      omega
    have hf := foldl_set (j * sz) v.cells.toList 0 cells (by simp; omega)
    simp only [Nat.add_zero, Array.length_toList, h1] at hf
    obtain ⟨cells', g1, g2⟩ := fill_row vs (j + 1) ((v.cells.toList.zipIdx 0).foldl (fun (cs : Array Value) (p : Value × Nat) => cs.setIfInBounds (j * sz + p.2) p.1) cells) (fun u hu => h u (by simp [hu])) (by
      rw [← Array.length_toList, hf]
      simp
      rw [hl] at hle ⊢
      have e : (j + (vs.length + 1)) * sz = (j + 1 + vs.length) * sz := by congr 1; omega
      rw [e] at hle ⊢
      omega)
    refine ⟨cells', ?_, ?_⟩
    · rw [List.length_cons, List.range'_succ, List.zip_cons_cons]
      simp only [Instr.fill]
      rw [if_neg (by simp [h1]; omega)]
      rw [← g1]
      congr 1
      rw [← Array.foldl_toList]
      simp
    · rw [g2, hf]
      have : (j + 1) * sz = j * sz + sz := by rw [Nat.add_mul, Nat.one_mul]
      have hlen : (cells.toList.take (j * sz) ++ v.cells.toList).length = j * sz + sz := by simp [h1]; omega
      rw [this, ← hlen, List.take_left]
      simp [cat]

theorem cat_get {sz : Nat} : ∀ (vs : List Value) (i : Nat) (h : i < vs.length), (∀ v ∈ vs, v.cells.size = sz) → ((cat vs).drop (i * sz)).take sz = vs[i].cells.toList
  | [], i, h, _ => by simp at h
  | v :: vs, 0, h, hs => by
    have h1 := hs v (by simp)
    simp only [cat, List.flatMap_cons, Nat.zero_mul, List.drop_zero, List.getElem_cons_zero]
    rw [← h1, ← Array.length_toList, List.take_left]
  | v :: vs, i + 1, h, hs => by
    have h1 := hs v (by simp)
    have := cat_get vs i (by simpa using h) (fun u hu => hs u (by simp [hu]))
    simp only [List.getElem_cons_succ]
    rw [← this]
    simp only [cat, List.flatMap_cons]
    rw [Nat.add_mul, Nat.one_mul, Nat.add_comm, ← List.drop_drop]
    congr 2
    rw [← h1, ← Array.length_toList, List.drop_left]
def D.cok : D → Bool
  | .agg c => c.flat1
  | d => d.one
def D.width : D → Nat
  | .agg c => c.len
  | _ => 1

theorem RV_cells {P : Program} {d : D} {ok : Nat → Prop} {w : World} {v : Value} (hc : d.cok = true) (h : RV P d ok w v) : v.cells.size = d.width ∧ (∀ c ∈ v.cells.toList, c.oneCell' = true) ∧ R P d ok w v.cells.toList := by
  have one : ∀ {d : D}, d.one = true → RV P d ok w v → v.cells.size = 1 ∧ (∀ c ∈ v.cells.toList, c.oneCell' = true) ∧ R P d ok w v.cells.toList := by
    intro d hd hv
    have h1 := (RV_one hd hv).2
    have : v.cells.toList = [v] := by cases v <;> simp_all [Value.cells, Value.oneCell']
    refine ⟨by rw [← Array.length_toList, this]; rfl, by rw [this]; simpa using h1, hv.2⟩
  cases d with
  | agg c =>
    have := R_toAV (s := fun _ => .any) (β := fun _ => none) (ν := fun _ => undef) c hc h.2
    exact ⟨by rw [← Array.length_toList]; exact this.2.2, this.2.1, h.2⟩
  | int k m => exact one rfl h
  | bool b => exact one rfl h
  | str b => exact one rfl h
  | list sz f z xs => exact one rfl h
  | fn f g => exact one rfl h
  | sl b d => exact one rfl h
  | any => exact one rfl h
  | ptr d => exact one rfl h
  | clp d => exact one rfl h
  | ifc T d => exact one rfl h
  | nil => cases hc
  | cons => cases hc
  | tup => cases hc
def Elems (s : St) (sz : Nat) {α : Type} (f : α → D) : List Operand → List α → Prop
  | [], as => as = []
  | x :: l, as => ∃ a as', as = a :: as' ∧ Sees (ev s x) (.val (f a)) ∧ (f a).cok = true ∧ (f a).width = sz ∧ Elems s sz f l as'

section
variable {P : Program} {n : Nat} {ops : Array Oper} {s : St} {o : Oper}

theorem RelB.elems {X : Cx} {t : St} {a : Act} {w : World} {β : Nat → Option Nat} {ν : Nat → Value} (hr : RelB P X t a w β ν) {sz : Nat} {α : Type} {f : α → D} : ∀ (xs : List Operand) (as : List α), (∀ k ∈ kxl xs, t k = s k) → Elems s sz f xs as →
    as.length = xs.length ∧ (∀ v ∈ xs.map a.eval, v.cells.size = sz ∧ ∀ c ∈ v.cells.toList, c.oneCell' = true) ∧ ∀ i (h : i < as.length) (h' : i < (xs.map a.eval).length), R P (f as[i]) (okAt X t β w) w (xs.map a.eval)[i].cells.toList
  | [], as, _, h => by simp only [Elems] at h; subst h; simp
  | x :: xs, as, hk, h => by
    obtain ⟨b, as', rfl, h1, h2, h3, h4⟩ := h
    obtain ⟨g1, g2, g3⟩ := RelB.elems hr xs as' (fun k hk' => hk k (by simp [kxl, hk'])) h4
    obtain ⟨v, e, hv⟩ := hr.sees (fun k hk' => hk k (by simp [kxl, hk'])) h1
    simp only [List.cons.injEq, and_true] at e
    subst e
    obtain ⟨q1, q2, q3⟩ := RV_cells h2 hv
    refine ⟨by simp [g1], ?_, ?_⟩
    · intro u hu
      rcases List.mem_cons.1 hu with rfl | hu
      · exact ⟨by rw [q1, h3], q2⟩
      · exact g2 u hu
    · intro i hi hi'
      cases i with
      | zero => exact q3
      | succ i => exact g3 i (by simpa using hi) (by simpa using hi')

theorem run_buildSlice {T e sz : Nat} {z : Value} {vs : List Value} (hT : IsSlice P T e) (hs : Size P e sz) (hz : Zero P e z) (h0 : 0 < sz) (hbig : vs.length * sz ≤ 16777216) (hvs : ∀ v ∈ vs, v.cells.size = sz) (w : World) :
    (Instr.buildSlice T vs.length ((List.range' 0 vs.length).zip vs).toArray).run P w = .ok (.slice (some ⟨w.heap.size, 0, none⟩) vs.length vs.length) (w.alloc (.cells (cat vs).toArray e)) := by
  have hT' : P.underlying T = some (.slice e) := hT
  by_cases hv : vs = []
  · subst hv
    have e1 : Array.map (fun _ => (default : Value)) (Array.range 0) = #[] := by apply Array.eq_empty_of_size_eq_zero; simp
    simp [Instr.buildSlice, run_underlying' hT', run_sizeOf hs, Instr.fill, newRow, newObj, Sem.run, cat, e1]
  · have hlen : 0 < vs.length := List.length_pos_iff.2 hv
    have hne : vs.length * sz ≠ 0 := by
      have := Nat.mul_pos hlen h0
      omega
    obtain ⟨cells', g1, g2⟩ := fill_row (sz := sz) vs 0 ((Array.range (vs.length * sz)).map (z.cells[· % z.cells.size]!)) hvs (by simp)
    have g3 : cells' = (cat vs).toArray := by
      apply Array.ext'
      simpa using g2
    rw [g3] at g1
    have hnb : ¬ 16777216 < vs.length * sz := by omega
    simp [Instr.buildSlice, run_underlying' hT', run_sizeOf hs, hne, run_zero hz, hnb, g1, newRow, newObj, Sem.run]

theorem c_buildSlice {T e sz k : Nat} {z : Value} {xs : List Operand} {α : Type} {f : α → D} {za : α} {as : List α} (ho : o.op = .buildSlice T k ((List.range' 0 xs.length).zip xs).toArray) (hk : k = xs.length) (hT : IsSlice P T e) (hs : Size P e sz) (hz : Zero P e z)
    (h0 : Nat.blt 0 sz = true) (hbig : Nat.blt (xs.length * sz) 16777216 = true) (hx : Elems s sz f xs as) : CStep P o (kxl xs) s (.val (.list sz f za as)) := by
  intro X t a w β ν hk' hr
  refine ⟨rfl, fun Q K' hK => ?_⟩
  obtain ⟨h1, h2, h3⟩ := hr.elems xs as hk' hx
  have hrun := run_buildSlice (P := P) (vs := xs.map a.eval) hT hs hz (blt_lt h0) (by have := blt_lt hbig; simp; omega) (fun v hv => (h2 v hv).1) w
  have hz' : ∀ (l : List Nat) (xs : List Operand), (l.zip xs).map (fun p => (p.1, a.eval p.2)) = l.zip (xs.map a.eval) := by
    intro l
    induction l with
    | nil => intro xs; simp
    | cons i l ih => intro xs; cases xs <;> simp [ih]
  have hrun' : (execOp a.eval o).run P w = .ok (.value (.slice (some ⟨w.heap.size, 0, none⟩) xs.length xs.length)) (w.alloc (.cells (cat (xs.map a.eval)).toArray e)) := by
    simp only [List.length_map] at hrun
    simp only [execOp, ho, hk]
    rw [List.map_toArray, hz' (List.range' 0 xs.length) xs]
    simp [hrun]
  unfold Oper.wp
  rw [hrun']
  have hb : Belw w.heap.size w (w.alloc (.cells (cat (xs.map a.eval)).toArray e)) := ⟨(Below.refl _ _).alloc (Nat.le_refl _) _, Nat.le_refl _⟩
  have hr' := hr.below hb
  have hcl := cat_len (sz := sz) (xs.map a.eval) (fun v hv => (h2 v hv).1)
  refine hK _ _ hr' ⟨_, rfl, rfl, some ⟨w.heap.size, 0, none⟩, xs.length, by rw [h1]; rfl, by rw [h1]; exact Nat.le_refl _, ?_, ?_, fun i hi => ?_⟩
  · have := blt_lt hbig; have h0' := blt_lt h0; simp only [maxLen]; have := Nat.le_mul_of_pos_right xs.length h0'; omega
  · have := blt_lt hbig; have h0' := blt_lt h0; rw [h1]; have := Nat.le_mul_of_pos_right xs.length h0'; omega
  · have hi' : i < (xs.map a.eval).length := by simp; omega
    have hg := cat_get (sz := sz) (xs.map a.eval) i hi' (fun v hv => (h2 v hv).1)
    have hvm := h2 _ (List.getElem_mem hi')
    refine ⟨_, (xs.map a.eval)[i].cells.toList, rfl, rfl, ⟨.inr (.inl hr.size), by simp, fun o hl hb' => absurd (hr.own o _ hl hb').2 (Nat.lt_irrefl _)⟩, by rw [Array.length_toList]; exact hvm.1, hvm.2, ?_, ?_⟩
    · intro j hj
      simp only [Array.length_toList, hvm.1] at hj
      have hc : ((cat (xs.map a.eval)).toArray)[i * sz + j]? = some ((xs.map a.eval)[i].cells.toList[j]) := by
        have : ((cat (xs.map a.eval)).drop (i * sz)).take sz = (xs.map a.eval)[i].cells.toList := hg
        simp only [List.getElem?_toArray]
        have e1 : (cat (xs.map a.eval))[i * sz + j]? = (((cat (xs.map a.eval)).drop (i * sz)).take sz)[j]? := by
          rw [List.getElem?_take, if_pos hj, List.getElem?_drop]
        rw [e1, this, List.getElem?_eq_getElem]
      simp only [World.cell?, heap_new]
      simpa using hc
    · exact R_mono _ (fun b hb' => ⟨⟨hb'.1, by have := hb'.2.1; simp; omega, hb'.2.2⟩, Below.heap_alloc _ _ _ hb'.2.1⟩) (by simp) (h3 i hi hi')
end
def Eq2 (P : Program) (T : TypeId) : Prop := ∃ F1 F2 : Field, P.underlying T = some (.struct #[F1, F2]) ∧ F1.name ≠ "_" ∧ F2.name ≠ "_" ∧ F1.offset = 0 ∧ F2.offset = 1 ∧ P.underlying F1.type = some (.int .i64) ∧ P.underlying F2.type = some (.int .i64) ∧
  P.stoodInHeld T = false ∧ P.eqGuardType P.depth T = false
def Eq3 (P : Program) (T : TypeId) : Prop := ∃ F1 F2 F3 : Field, P.underlying T = some (.struct #[F1, F2, F3]) ∧ F1.name ≠ "_" ∧ F2.name ≠ "_" ∧ F3.name ≠ "_" ∧ F1.offset = 0 ∧ F2.offset = 1 ∧ F3.offset = 2 ∧ P.underlying F1.type = some (.int .i64) ∧
  P.underlying F2.type = some (.int .i64) ∧ P.underlying F3.type = some (.int .i64) ∧ P.stoodInHeld T = false ∧ P.eqGuardType P.depth T = false

section
variable {P : Program} {s : St} {o : Oper}
def IsBool (P : Program) (T : TypeId) : Prop := P.underlying T = some .bool
end
end Go.Um
