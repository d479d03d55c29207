/- Rows: stores of elements, literals and makes as rows, rows in variables, rows as arguments. No condition. -/
import Derived.Test.YtpjenbbalengoaaRow
namespace Go.Um
open Go Go.RowKit

section
variable {P : Program} {n : Nat} {ops : Array Oper} {s : St} {o : Oper}

/-- The content of a row is put anew; its version stays. -/
theorem RelB.setRow {X : Cx} {t : St} {a : Act} {w : World} {β : Nat → Option Nat} {ν : Nat → Value} (hr : RelB P X t a w β ν) {o1 u e sz by_ g cap : Nat} {α : Type} {f : α → D} {z : α} {xs xs' : List α} {cur cur' : Array Value} {cells' : List Value} (h4 : 10000 ≤ o1) (hb : t o1 = .arr u e sz by_ f z xs)
    (hν : ν o1 = .slice (some ⟨g, 0, none⟩) xs.length cap) (hβ : β o1 = some g) (hh : w.heap[g]? = some (.cells cur e (0, 0))) (hsz : cur'.size = cap * sz) (hcap : xs.length ≤ cap) (hcm : cap ≤ maxLen) (h0 : 0 < sz) (hby : xs.length * by_ ≤ 140737488355328) (hlim : xs.length ≤ 140737488355328) (hl : xs'.length = xs.length)
    (htake : cur'.toList.take (xs.length * sz) = cells') (h1 : ∀ c ∈ cells', c.oneCell' = true) (hR : ∀ i (h : i < xs'.length), R P (f xs'[i]) (okAt X t β w) w ((cells'.drop (i * sz)).take sz)) :
    RelB P X (upd t o1 (.arr u e sz by_ f z xs')) a (w.setRow g cur') β ν := by
  have hlv : ∀ o, live (upd t o1 (.arr u e sz by_ f z xs') o) = live (t o) ∧ ver (upd t o1 (.arr u e sz by_ f z xs') o) = ver (t o) := by
    intro o
    by_cases e : o = o1
    · subst e; rw [upd_same, hb]; exact ⟨rfl, rfl⟩
    · rw [upd_ne _ _ e]; exact ⟨rfl, rfl⟩
  have hlob : live (t o1) = true := by rw [hb]; rfl
  have hgoes : Goes t (upd t o1 (.arr u e sz by_ f z xs')) β β ν ν := fun o k hk => ⟨k, by rw [(hlv o).2]; exact hk, Nat.le_refl _, fun _ hl => ⟨by rw [← (hlv o).1]; exact hl, rfl, rfl⟩⟩
  have hok : ∀ b', okAt X t β w b' → okAt X (upd t o1 (.arr u e sz by_ f z xs')) β (w.setRow g cur') b' ∧ (w.setRow g cur').heap[b']? = w.heap[b']? := by
    intro b' hb'
    refine ⟨⟨hb'.1, by simpa using hb'.2.1, fun o hl => hb'.2.2 o (by rw [← (hlv o).1]; exact hl)⟩, ?_⟩
    exact setRow_other w g b' cur' (fun e => hb'.2.2 o1 hlob (by rw [hβ, e]))
  refine hr.move rfl rfl ⟨rfl, Nat.le_refl _⟩ (by simp) ?_ hok hgoes ?_ ?_ ?_ ?_ ?_ rfl rfl (fun hv => .inl (upd_ne _ _ (by intro e; rw [e, upd_same] at hv; cases hv)))
  · intro b' hb' hn
    refine setRow_other w g b' cur' (fun e => ?_)
    subst e
    rcases (hr.own o1 b' hlob hβ).1 with h | h
    · omega
    · exact hn h
  · intro o b' hl hb'; exact .inl ⟨by rw [← (hlv o).1]; exact hl, hb'⟩
  · intro o o' b' hl hl' hb1 hb2
    exact hr.inj o o' b' (by rw [← (hlv o).1]; exact hl) (by rw [← (hlv o').1]; exact hl') hb1 hb2
  · intro o hl'
    by_cases e' : o = o1
    · subst e'
      right
      rw [upd_same]
      refine ⟨cells', ?_, by rw [hβ, hν]; rfl, h0, by rw [hl]; exact hby, by rw [hl]; exact hlim, h1, fun i hi => R_mono _ hok (by simp) (hR i hi)⟩
      rw [hν, hl]
      refine ⟨?_, .inr ⟨g, cap, cur', rfl, Nat.zero_le _, setRow_heap w g cur cur' e _ hh, hcap, hcm, hsz, htake⟩⟩
      rw [← htake, List.length_take]
      have h9 : cur'.toList.length = cap * sz := by simpa using hsz
      have : xs.length * sz ≤ cap * sz := Nat.mul_le_mul_right _ hcap
      omega
    · left
      refine ⟨upd_ne _ _ e', rfl, rfl, fun b' hb' => setRow_other w g b' cur' (fun e2 => e' ?_)⟩
      subst e2
      exact hr.inj o o1 b' (by rw [← (hlv o).1]; exact hl') hlob hb' hβ
  · intro k hk
    left
    exact ⟨upd_ne _ _ (by omega), rfl⟩
  · intro k hk
    rw [(hlv k).2]
    exact hr.keys k hk

/-- 'a[i] = v', a a row of the call's own, elements of one cell. -/
theorem r_storeE {x y : Operand} {T o1 u e by_ m : Nat} {α : Type} {f : α → D} {z v : α} {xs : List α} (ho : o.op = .store T x y) (hs : Size P T 1) (hd : o.dst = none) (hg : o.guard = none) (hob : Nat.blt 9999 o1 = true) (hx : Sees (ev s x) (.elt o1 u 1 m)) (hb : s o1 = .arr u e 1 by_ f z xs) (hm : m < xs.length)
    (hy : Sees (ev s y) (.val (f v))) (hone : (f v).one = true) : LStep P n ops o ((o1 :: kx x) ++ kx y, [o1]) s (upd s o1 (.arr u e 1 by_ f z (xs.set m v))) := by
  refine ⟨upd_off, fun X t a w hX hk hr Q => ?_⟩
  obtain ⟨β, ν, hr⟩ := hr
  obtain ⟨g, cap, cur, cells, q1, q2, q3, q4, q5, q6, q7, q8, q9, q10, q11, q12, q13, q14⟩ := hr.atElt (kl hk) hx hb hm
  obtain ⟨q, e1, hv⟩ := hr.sees (kr hk) hy
  simp only [List.cons.injEq, and_true] at e1
  subst e1
  obtain ⟨r1, r2⟩ := RV_one hone hv
  have hcl : (a.eval y).cells.toList = [a.eval y] := by
    generalize a.eval y = q at r2
    cases q <;> simp_all [Value.cells, Value.oneCell']
  have hcz : (a.eval y).cells.size = 1 := by rw [← Array.length_toList, hcl]; rfl
  have hlt : m < cur.size := by rw [q7]; omega
  have hrun : (execOp a.eval o).run P w = .ok .skip (w.setRow g (cur.toList.set m (a.eval y)).toArray) := by
    have hst := run_storeCells_at (P := P) g (m * 1) e [a.eval y] 0 cur w q4 (by simp; omega) (by simpa using r2)
    have e : (cur.toList.take (m * 1 + 0) ++ [a.eval y] ++ cur.toList.drop (m * 1 + 0 + [a.eval y].length)) = cur.toList.set m (a.eval y) := by
      simp only [Nat.mul_one, Nat.add_zero, List.length_singleton, List.append_assoc, List.singleton_append]
      rw [List.set_eq_take_append_cons_drop]
      simp [hlt]
    rw [e] at hst
    simp [execOp, ho, Instr.storeAt, q3, Instr.sureAddr, storeVar, run_sizeOf hs, hcz, hcl]
    simp only [Nat.mul_one] at hst
    rw [hst]
    rfl
  refine opWp_skip (by simp [Region.wanted, hg]) hd hrun ?_
  rw [ovr_one]
  have hob' := blt_lt hob
  have hcells : (cur.toList.set m (a.eval y)).toArray.toList.take (xs.length * 1) = cells.set m (a.eval y) := by
    simp only [Nat.mul_one] at q6 ⊢
    rw [← q6, List.take_set]
  refine ⟨β, ν, hr.setRow (by omega) (by rw [hk o1 (by simp), hb]) q1 q2 q4 (by simpa using q7) q8 q9 q10 q11 q12 (by simp) hcells ?_ ?_⟩
  · intro c hc
    rcases List.mem_or_eq_of_mem_set hc with h | h
    · exact q13 c h
    · rw [h]; exact r2
  · intro i hi
    simp only [List.length_set] at hi
    have h14 := q14 i hi
    simp only [Nat.mul_one] at h14 ⊢
    by_cases e : i = m
    · subst e
      rw [List.getElem_set_self]
      have hlc : i < cells.length := by have := q5.1; omega
      have : ((cells.set i (a.eval y)).drop i).take 1 = [a.eval y] := by
        rw [List.drop_eq_getElem_cons (by simpa using hlc)]
        simp
      rw [this]
      exact r1
    · rw [List.getElem_set_ne (fun h => e h.symm)]
      have : ((cells.set m (a.eval y)).drop i).take 1 = (cells.drop i).take 1 := by
        apply List.ext_getElem?
        intro j
        rw [List.getElem?_take, List.getElem?_take]
        split
        · rename_i hj
          obtain rfl : j = 0 := by omega
          rw [List.getElem?_drop, List.getElem?_drop, List.getElem?_set]
          simp [fun h => e (Eq.symm h)]
          intro h; exact absurd h.symm e
        · rfl
      rw [this]
      exact h14

/-- A slice literal as a row of the call's own. -/
theorem r_buildRow {T e sz by_ k d ob : Nat} {zv : Value} {xs : List Operand} {α : Type} {f : α → D} {za : α} {as : List α} (ho : o.op = .buildSlice T k ((List.range' 0 xs.length).zip xs).toArray) (hk : k = xs.length) (hT : IsSlice P T e) (hs : Size P e sz) (hz : Zero P e zv)
    (h0 : Nat.blt 0 sz = true) (hbig : Nat.blt (xs.length * sz) 16777216 = true) (hby : xs.length * by_ ≤ 140737488355328) (hx : Elems s sz f xs as) (hd : o.dst = some d) (hg : o.guard = none) (hob : Nat.blt 9999 ob = true) (hn : Nat.blt d n = true) (h4 : Nat.blt d 10000 = true) :
    LStep P n ops o (ob :: kxl xs, [d, ob]) s (upd (upd s ob (.arr (newVer (s ob)) e sz by_ f za as)) d (.row ob (newVer (s ob)))) := by
  refine ⟨off_two, fun X t a w hX hk' hr Q => ?_⟩
  obtain ⟨β, ν, hr⟩ := hr
  have hob' := blt_lt hob
  have hd4 := blt_lt h4
  obtain ⟨h1, h2, h3⟩ := hr.elems xs as (fun j hj => hk' j (by simp [hj])) hx
  have hrun := run_buildSlice (P := P) (vs := xs.map a.eval) hT hs hz (blt_lt h0) (by have := blt_lt hbig; simp; omega) (fun v hv => (h2 v hv).1) w
  have hz' : ∀ (l : List Nat) (xs : List Operand), (l.zip xs).map (fun p => (p.1, a.eval p.2)) = l.zip (xs.map a.eval) := by
    intro l
    induction l with
    | nil => intro xs; simp
    | cons i l ih => intro xs; cases xs <;> simp [ih]
  have hrun' : (execOp a.eval o).run P w = .ok (.value (.slice (some ⟨w.heap.size, 0, none⟩) xs.length xs.length)) (w.alloc (.cells (cat (xs.map a.eval)).toArray e)) := by
    simp only [List.length_map] at hrun
    simp only [execOp, ho, hk]
    rw [List.map_toArray, hz' (List.range' 0 xs.length) xs]
    simp [hrun]
  refine opWp_run (by simp [Region.wanted, hg]) hrun' ?_
  rw [ovr_two (by omega), hd]
  have hto : t ob = s ob := hk' ob (by simp)
  rw [← hto]
  have hcl := cat_len (sz := sz) (xs.map a.eval) (fun v hv => (h2 v hv).1)
  simp only [List.length_map] at hcl
  have h0' := blt_lt h0
  have hb' := blt_lt hbig
  have hxle := Nat.le_mul_of_pos_right xs.length h0'
  refine hr.grown (row := none) (cells := cat (xs.map a.eval)) (Kill.refl t) (by omega) (by rw [hX]; exact blt_lt hn) hd4 ⟨rfl, rfl, rfl, by simp, fun b hb _ => Below.heap_alloc _ _ _ hb⟩ (Nat.le_refl _) (fun b hb => by cases hb) (fun b hb => ?_) ?_ h0' (by rw [h1]; exact hby) (by rw [h1]; omega) ?_ ?_
  · simp only [Value.ownBlock, Option.some.injEq] at hb
    right; omega
  · rw [h1]
    exact ⟨hcl, .inr ⟨w.heap.size, xs.length, _, rfl, Nat.zero_le _, heap_new w _, Nat.le_refl _, by simp only [maxLen]; omega, by simp [hcl], by rw [List.take_of_length_le (by simp [hcl])]⟩⟩
  · intro u hu
    simp only [cat, List.mem_flatMap] at hu
    obtain ⟨v, hv, huv⟩ := hu
    exact (h2 v hv).2 u huv
  · intro i hi
    have hi' : i < (xs.map a.eval).length := by simp; omega
    rw [cat_get (sz := sz) (xs.map a.eval) i hi' (fun v hv => (h2 v hv).1)]
    exact h3 i hi hi'

/-- A store of a row into a cell of a box. -/
theorem r_storeR {x y : Operand} {T ob u off o1 u1 e sz by_ : Nat} {α : Type} {f : α → D} {z : α} {xs : List α} {c : AV} (ho : o.op = .store T x y) (hs : Size P T 1) (hd : o.dst = none) (hg : o.guard = none) (hob : Nat.blt 9999 ob = true) (hx : Sees (ev s x) (.ref ob u off)) (hb : s ob = .box u c) (hi : Nat.blt off c.len = true)
    (hy : Sees (ev s y) (.row o1 u1)) (hb1 : s o1 = .arr u1 e sz by_ f z xs) : LStep P n ops o ((ob :: kx x) ++ (o1 :: kx y), [ob]) s (upd s ob (.box u (c.set off (.row o1 u1)))) := by
  refine ⟨upd_off, fun X t a w hX hk hr Q => ?_⟩
  obtain ⟨β, ν, hr⟩ := hr
  obtain ⟨b, cs, ty, g1, g2, g3, g4, g5⟩ := hr.atBox (kl hk) hx hb
  obtain ⟨cells, q1, _⟩ := hr.atRow (kr hk) hy hb1
  have hv := hr.sees (fun k hk' => kr hk k (by simp [hk'])) hy
  have hv1 : (a.eval y).oneCell' = true := by
    rcases q1.2 with ⟨h, _⟩ | ⟨_, _, _, h, _⟩ <;> rw [h] <;> rfl
  have hlt : off < cs.size := by
    obtain ⟨q, hq, _⟩ := VR_nth c off g5 (blt_lt hi)
    have := (List.getElem?_eq_some_iff.1 hq).1
    simpa using this
  have hcl : (a.eval y).cells.toList = [a.eval y] := by
    generalize a.eval y = q at hv1
    cases q <;> simp_all [Value.cells, Value.oneCell']
  have hcz : (a.eval y).cells.size = 1 := by rw [← Array.length_toList, hcl]; rfl
  have hrun : (execOp a.eval o).run P w = .ok .skip (w.setRow b (cs.toList.set off (a.eval y)).toArray) := by
    have hst := run_storeCells_at (P := P) b off ty [a.eval y] 0 cs w g3 (by simp; omega) (by simpa using hv1)
    have e : (cs.toList.take (off + 0) ++ [a.eval y] ++ cs.toList.drop (off + 0 + [a.eval y].length)) = cs.toList.set off (a.eval y) := by
      simp only [Nat.add_zero, List.length_singleton, List.append_assoc, List.singleton_append]
      rw [List.set_eq_take_append_cons_drop]
      simp [hlt]
    rw [e] at hst
    simp [execOp, ho, Instr.storeAt, g1, Instr.sureAddr, storeVar, run_sizeOf hs, hcz, hcl, hst]
  refine opWp_skip (by simp [Region.wanted, hg]) hd hrun ?_
  rw [ovr_one]
  have hob' := blt_lt hob
  refine ⟨β, ν, hr.setBox (by omega) (by rw [hk ob (by simp), hb]) g2 g3 ?_ ?_⟩
  · intro q hq
    rcases List.mem_or_eq_of_mem_set hq with h | h
    · exact g4 q h
    · rw [h]; exact hv1
  · exact VR_set c off _ _ g5 (blt_lt hi) hv
end
end Go.Um
