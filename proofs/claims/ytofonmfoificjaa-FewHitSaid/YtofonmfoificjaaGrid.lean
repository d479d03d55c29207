/- A slice of slices of the call's own, all of whose rows are written: a variable of many cells, and a family of rows. No condition. -/
import Derived.Test.YtofonmfoificjaaSub
import Derived.Test.YtofonmfoificjaaFlow
namespace Go.Um
open Go Go.RowKit

/-! ### Chains by a function -/

def chF (f : Nat → AV) : Nat → Nat → AV
  | _, 0 => .cnil
  | j, m + 1 => .ccons (f j) (chF f (j + 1) m)

theorem chF_len (f : Nat → AV) : ∀ m j, (chF f j m).len = m
  | 0, _ => rfl
  | m + 1, j => by simp [chF, AV.len, chF_len f m (j + 1)]
theorem chF_nth (f : Nat → AV) : ∀ m j t, t < m → (chF f j m).nth t = f (j + t)
  | 0, _, _, h => by omega
  | m + 1, j, 0, _ => rfl
  | m + 1, j, t + 1, h => by
    show (chF f (j + 1) m).nth t = _
    rw [chF_nth f m (j + 1) t (by omega)]
    congr 1
    omega
theorem chF_congr {f g : Nat → AV} : ∀ m j, (∀ t, t < m → f (j + t) = g (j + t)) → chF f j m = chF g j m
  | 0, _, _ => rfl
  | m + 1, j, h => by
    have h0 : f j = g j := h 0 (by omega)
    rw [chF, chF, h0, chF_congr (f := f) (g := g) m (j + 1) (fun t ht => by have := h (t + 1) (by omega); rwa [show j + (t + 1) = j + 1 + t by omega] at this)]
theorem chF_set (f : Nat → AV) (x : AV) : ∀ m j t, t < m → (chF f j m).set t x = chF (fun i => if i = j + t then x else f i) j m
  | 0, _, _, h => by omega
  | m + 1, j, 0, _ => by
    show AV.ccons x (chF f (j + 1) m) = _
    rw [chF, if_pos (Nat.add_zero j).symm]
    congr 1
    exact chF_congr m (j + 1) (fun t ht => by rw [if_neg (by omega)])
  | m + 1, j, t + 1, h => by
    show AV.ccons (f j) ((chF f (j + 1) m).set t x) = _
    rw [chF_set f x m (j + 1) t (by omega), chF, if_neg (by omega)]
    congr 1
    exact chF_congr m (j + 1) (fun i hi => by rw [show j + 1 + t = j + (t + 1) by omega])
theorem chF_ment (f : Nat → AV) : ∀ m j o, o ∈ ment (chF f j m) → ∃ t, t < m ∧ o ∈ ment (f (j + t))
  | 0, _, _, h => by simp [chF, ment] at h
  | m + 1, j, o, h => by
    simp only [chF, ment, List.mem_append] at h
    rcases h with h | h
    · exact ⟨0, by omega, h⟩
    · obtain ⟨t, h1, h2⟩ := chF_ment f m (j + 1) o h
      exact ⟨t + 1, by omega, by rwa [show j + (t + 1) = j + 1 + t by omega]⟩
theorem chF_VR {P : Program} {ok : Nat → Prop} {w : World} {s : St} {β : Nat → Option Nat} {ν : Nat → Value} (f : Nat → AV) : ∀ m j (vs : List Value), vs.length = m → (∀ t (h : t < vs.length), VR P ok w s β ν (f (j + t)) [vs[t]]) → VR P ok w s β ν (chF f j m) vs
  | 0, _, vs, h, _ => List.eq_nil_of_length_eq_zero h
  | m + 1, j, [], h, _ => by simp at h
  | m + 1, j, v :: vs, h, hv => ⟨v, vs, rfl, hv 0 (by simp), chF_VR f m (j + 1) vs (by simpa using h) (fun t ht => by
      have := hv (t + 1) (by simp; omega)
      rwa [show j + (t + 1) = j + 1 + t by omega] at this)⟩

theorem chF_vlen {P : Program} {ok : Nat → Prop} {w : World} {s : St} {β : Nat → Option Nat} {ν : Nat → Value} (f : Nat → AV) : ∀ m j (vs : List Value), VR P ok w s β ν (chF f j m) vs → vs.length = m
  | 0, _, vs, h => by
    have h : vs = [] := h
    rw [h]
    rfl
  | m + 1, j, vs, h => by
    obtain ⟨v, vs', rfl, _, h2⟩ := h
    simp [chF_vlen f m (j + 1) vs' h2]

/-! ### The state -/

/-- A family of objects from the key 40000 on. -/
def fam (n : Nat) (F : Nat → AV) (s : St) : St := fun k => bif Nat.ble 40000 k then (bif Nat.blt (k - 40000) n then F (k - 40000) else .any) else s k

theorem fam_at {n i : Nat} {F : Nat → AV} {s : St} (h : i < n) : fam n F s (40000 + i) = F i := by
  have h1 : Nat.ble 40000 (40000 + i) = true := Nat.ble_eq_true_of_le (by omega)
  have h2 : 40000 + i - 40000 = i := by omega
  have h3 : Nat.blt i n = true := by simpa [Nat.blt] using Nat.ble_eq_true_of_le (show i + 1 ≤ n by omega)
  simp [fam, h1, h2, h3]
theorem fam_lo {n k : Nat} {F : Nat → AV} {s : St} (h : k < 40000) : fam n F s k = s k := by
  have h1 : Nat.ble 40000 k = false := by
    cases hb : Nat.ble 40000 k
    · rfl
    · have := Nat.le_of_ble_eq_true hb; omega
  simp [fam, h1]
theorem fam_hi {n k : Nat} {F : Nat → AV} {s : St} (h : 40000 + n ≤ k) : fam n F s k = .any := by
  have h1 : Nat.ble 40000 k = true := Nat.ble_eq_true_of_le (by omega)
  have h3 : Nat.blt (k - 40000) n = false := by
    cases hb : Nat.blt (k - 40000) n
    · rfl
    · have := blt_lt hb; omega
  simp [fam, h1, h3]

/-- Weakening: each key keeps its content, or is told nothing of; what is named keeps its content. -/
theorem le_gen {P : Program} {s s' : St} (h : ∀ k, s' k = s k ∨ s' k = .any) (hc : ∀ k, s' k ≠ .any → ∀ o ∈ ment (s' k), s' o = s o) : Le P s s' := by
  rintro X a w ⟨β, ν, hr⟩
  refine ⟨β, ν, ?_⟩
  have hlive : ∀ o, live (s' o) = true → s' o = s o := by
    intro o hl
    rcases h o with h' | h'
    · exact h'
    · rw [h'] at hl; cases hl
  have hok : ∀ b, okAt X s β w b → okAt X s' β w b ∧ w.heap[b]? = w.heap[b]? := by
    intro b hb
    exact ⟨⟨hb.1, hb.2.1, fun o hl => hb.2.2 o (by rw [← hlive o hl]; exact hl)⟩, rfl⟩
  have hvr : ∀ x vs, (∀ o ∈ ment x, s' o = s o) → VR P (okAt X s β w) w s β ν x vs → VR P (okAt X s' β w) w s' β ν x vs := by
    intro x vs hm hv
    refine VR_mono' hok (Nat.le_refl _) x (fun o ho k hk => ?_) hv
    have := hm o ho
    exact ⟨k, by rw [this]; exact hk, Nat.le_refl _, fun _ hl => ⟨by rw [← this]; exact hl, rfl, rfl⟩⟩
  exact {
    os := hr.os, tape := hr.tape, output := hr.output, drawn := hr.drawn, size := hr.size, frame := hr.frame, tmps := hr.tmps, defers := hr.defers
    kept := fun b o hb => ⟨(hok b (hr.kept b o hb).1).1, (hr.kept b o hb).2⟩
    own := fun o b hl hb => hr.own o b (by rw [← hlive o hl]; exact hl) hb
    inj := fun o o' b hl hl' => hr.inj o o' b (by rw [← hlive o hl]; exact hl) (by rw [← hlive o' hl']; exact hl')
    obj := fun o => by
      cases hl : live (s' o) with
      | false => exact OR_dead hl
      | true =>
        have e := hlive o hl
        have ho := hr.obj o
        rw [← e] at ho
        have hmo : ∀ o' ∈ ment (s' o), s' o' = s o' := hc o (fun hx => by rw [hx] at hl; cases hl)
        generalize hx : s' o = x at ho hl hmo ⊢
        cases x with
        | box u c =>
          obtain ⟨b, cs, ty, h1, h2, h3, h4⟩ := ho
          exact ⟨b, cs, ty, h1, h2, h3, hvr c _ (fun o' ho' => hmo o' (by simpa [ment] using ho')) h4⟩
        | arr u e sz by_ f z xs =>
          obtain ⟨cells, h1, h2, h3, h4, h4', h5, h6⟩ := ho
          exact ⟨cells, h1, h2, h3, h4, h4', h5, fun i hi => R_mono _ hok (Nat.le_refl _) (h6 i hi)⟩
        | mp u kv vv m => exact ho
        | _ => trivial
    slot := fun t ht => by
      rcases h t with h' | h'
      · by_cases hany : s' t = .any
        · rw [hany]; exact ⟨_, rfl⟩
        · exact hvr _ _ (hc t hany) (by rw [h']; exact hr.slot t ht)
      · rw [h']; exact ⟨_, rfl⟩
    keys := fun t ht => by
      rcases h t with h' | h'
      · rw [h']; exact hr.keys t ht
      · rw [h']; rfl
    anch := fun hv => by
      rcases h 29999 with h' | h'
      · by_cases hany : s' 29999 = .any
        · rw [hany]; exact ⟨_, rfl⟩
        · exact hvr _ _ (hc 29999 hany) (by rw [h']; exact hr.anch (by rw [← h']; exact hv))
      · rw [h']; exact ⟨_, rfl⟩ }

/-- The listed keys, a variable at 30001 whose cells are rows of the family, and the family. -/
def grid (l : List (Nat × AV)) (n : Nat) (F : Nat → AV) (u : Nat) (B : AV) : St := fam n F (ofL ((30001, .box u B) :: l))

def closedG (l : List (Nat × AV)) : Bool := l.all fun p => Nat.blt p.1 40000 && (ment p.2).all fun o => Nat.beq o 30001 || l.any fun q => Nat.beq q.1 o && !Nat.beq o 30001

theorem ofG_mem : ∀ (l : List (Nat × AV)) (k : Nat), ofL l k ≠ .any → ∃ p ∈ l, p.1 = k ∧ p.2 = ofL l k
  | [], _, h => absurd rfl h
  | (j, x) :: l, k, h => by
    simp only [ofL] at h ⊢
    cases hb : Nat.beq k j
    · rw [hb] at h
      simp only [cond_false] at h ⊢
      obtain ⟨p, h1, h2, h3⟩ := ofG_mem l k h
      exact ⟨p, List.mem_cons_of_mem _ h1, h2, h3⟩
    · simp only [cond_true]
      exact ⟨(j, x), List.mem_cons_self .., (Nat.eq_of_beq_eq_true hb).symm, rfl⟩

theorem le_grid {P : Program} {s : St} {l : List (Nat × AV)} {n : Nat} {F : Nat → AV} {u : Nat} {B : AV} (h : allEq s l) (hc : closedG l = true) (hB : s 30001 = .box u B) (hm : ∀ o ∈ ment B, (o ≠ 30001 ∧ ∃ q ∈ l, q.1 = o) ∨ ∃ j, j < n ∧ o = 40000 + j ∧ s (40000 + j) = F j) (hF : ∀ j, j < n → s (40000 + j) = F j ∨ F j = .any) (hF0 : ∀ j, j < n → ment (F j) = []) :
    Le P s (grid l n F u B) := by
  have hl : ∀ p ∈ l, p.1 < 40000 ∧ ∀ o ∈ ment p.2, o = 30001 ∨ ∃ q ∈ l, q.1 = o ∧ o ≠ 30001 := by
    intro p hp
    have := List.all_eq_true.1 hc p hp
    simp only [Bool.and_eq_true, List.all_eq_true, Bool.or_eq_true, List.any_eq_true, Bool.not_eq_true'] at this
    refine ⟨blt_lt this.1, fun o ho => ?_⟩
    rcases this.2 o ho with h1 | ⟨q, hq, h1, h2⟩
    · exact .inl (Nat.eq_of_beq_eq_true h1)
    · exact .inr ⟨q, hq, (Nat.eq_of_beq_eq_true h1), fun e => by rw [e] at h2; cases h2⟩
  have hall : allEq s ((30001, .box u B) :: l) := ⟨hB, h⟩
  have key : ∀ k, grid l n F u B k = s k ∨ grid l n F u B k = .any := by
    intro k
    unfold grid
    rcases Nat.lt_or_ge k 40000 with h1 | h1
    · rw [fam_lo h1]
      rcases ofL_cases hall k with h2 | ⟨h2, _⟩
      · exact .inl h2
      · exact .inr h2
    · rcases Nat.lt_or_ge (k - 40000) n with h2 | h2
      · obtain ⟨j, rfl⟩ : ∃ j, k = 40000 + j := ⟨k - 40000, by omega⟩
        rw [fam_at (by omega)]
        rcases hF j (by omega) with h3 | h3
        · exact .inl h3.symm
        · exact .inr h3
      · right
        exact fam_hi (by omega)
  have hbox : grid l n F u B 30001 = s 30001 := by
    unfold grid
    rw [fam_lo (by decide), hB]
    rfl
  refine le_gen key (fun k hne o ho => ?_)
  rcases Nat.lt_or_ge k 40000 with h1 | h1
  · have e : grid l n F u B k = ofL ((30001, .box u B) :: l) k := fam_lo h1
    rw [e] at hne ho
    obtain ⟨p, hp, hp1, hp2⟩ := ofG_mem _ k hne
    rcases List.mem_cons.1 hp with rfl | hp
    · rw [← hp2] at ho
      rcases hm o ho with ⟨_, q, hq, rfl⟩ | ⟨j, hj, rfl, hj2⟩
      · have h4 := (hl q hq).1
        rcases ofL_cases hall q.1 with h7 | ⟨_, h7⟩
        · exact (fam_lo h4).trans h7
        · exact absurd rfl (h7 q (List.mem_cons_of_mem _ hq))
      · unfold grid
        rw [fam_at hj, hj2]
    · rw [← hp2] at ho
      rcases (hl p hp).2 o ho with rfl | ⟨q, hq, rfl, h3⟩
      · exact hbox
      · have h4 := (hl q hq).1
        rcases ofL_cases hall q.1 with h7 | ⟨_, h7⟩
        · exact (fam_lo h4).trans h7
        · exact absurd rfl (h7 q (List.mem_cons_of_mem _ hq))
  · rcases Nat.lt_or_ge (k - 40000) n with h2 | h2
    · obtain ⟨j, rfl⟩ : ∃ j, k = 40000 + j := ⟨k - 40000, by omega⟩
      unfold grid at ho
      rw [fam_at (by omega), hF0 j (by omega)] at ho
      cases ho
    · exact absurd (fam_hi (by omega)) hne

/-! ### Steps -/

section
variable {P : Program} {n : Nat} {ops : Array Oper} {s : St} {o : Oper}

/-- 'make' of a slice of one-cell elements, as a variable of many cells. -/
theorem r_makeB {x : Operand} {T e by_ d ob m : Nat} {k : IntKind} {zv : Value} {zx : AV} (ho : o.op = .makeSlice T x x) (hT : IsSlice P T e) (hs : Size P e 1) (hby : Bytes P e by_) (hz : Zero P e zv) (hzc : zv.cells = #[zv]) (hz1 : zv.oneCell' = true)
    (hR : ∀ (ok : Nat → Prop) (w : World) (s : St) (β : Nat → Option Nat) (ν : Nat → Value), VR P ok w s β ν zx [zv]) (hx : Sees (ev s x) (.val (.int k (m : Int)))) (hb : m * by_ ≤ 140737488355328) (hl : m ≤ 140737488355328) (hd : o.dst = some d) (hg : o.guard = none) (hob : Nat.blt 9999 ob = true) (hn : Nat.blt d n = true) (h4 : Nat.blt d 10000 = true) :
    LStep P n ops o (ob :: kx x, [d, ob]) s (upd (upd s ob (.box (newVer (s ob)) (chF (fun _ => zx) 0 m))) d (.bsl ob (newVer (s ob)) m)) := by
  refine ⟨off_two, fun X t a w hX hk hr Q => ?_⟩
  obtain ⟨β, ν, hr⟩ := hr
  have hob' := blt_lt hob
  have hd4 := blt_lt h4
  have hv := hr.int (fun k hk' => hk k (List.mem_cons_of_mem _ hk')) hx
  unfold Size at hs
  unfold Bytes at hby
  unfold Zero at hz
  obtain ⟨inf, i1, i2⟩ := Option.map_eq_some_iff.1 hs
  rw [i1] at hby hz
  simp only [Option.map_some, Option.some.injEq, Option.bind_some] at hby hz
  obtain ⟨w', hrun, r1, r2⟩ := run_make_full (P := P) w w.heap.size T e inf zv 1 hT i1 hz i2 k k m (by rw [hby, Nat.mul_comm]; omega) (by simp only [maxLen]; omega) (Nat.le_refl _)
  have hrun' : (execOp a.eval o).run P w = .ok (.value (.slice (some ⟨w.heap.size, 0, none⟩) m m)) w' := by
    simp [execOp, ho, hv, hrun]
  refine opWp_run (by simp [Region.wanted, hg]) hrun' ?_
  rw [ovr_two (by omega), hd]
  have hto : t ob = s ob := hk ob (by simp)
  rw [← hto]
  rcases r1.2 with ⟨h, _⟩ | ⟨g, cap, cur, c1, c2, c3, c4, c5, c6, c7⟩
  · cases h
  · simp only [Value.slice.injEq, Option.some.injEq, Addr.mk.injEq, and_true] at c1
    obtain ⟨rfl, _, rfl⟩ := c1
    have hcur : cur.toList = (madeCells zv.cells (m * 1)).toList := by
      rw [← c7, List.take_of_length_le (by simp; omega)]
    have hcl : cur.toList.length = m := by simp; omega
    have hcell : ∀ j (h : j < cur.toList.length), cur.toList[j] = zv := by
      intro j h
      have h2 : cur.toList[j]? = (madeCells zv.cells (m * 1)).toList[j]? := by rw [hcur]
      rw [List.getElem?_eq_getElem h] at h2
      have h3 : (madeCells zv.cells (m * 1)).toList[j]? = some zv := by
        have hsz : j < (madeCells zv.cells (m * 1)).size := by simp [size_madeCells]; omega
        rw [Array.getElem?_toList, Array.getElem?_eq_getElem hsz]
        simp [madeCells, hzc, Nat.mod_one]
      rw [h3] at h2
      exact Option.some.inj h2
    refine ⟨updF β ob (some w.heap.size), updF ν ob undef, hr.newObj (Kill.refl t) (by omega) (by rw [hX]; exact blt_lt hn) hd4 r2.os r2.tape ⟨r2.output, sem_drawn _ hrun'⟩ r2.size (fun b hb => .inl (r2.block b hb (by simp))) (fun b hb => .inl ?_) rfl rfl ?_⟩
    · cases hb
      exact ⟨Nat.le_refl _, (Array.getElem?_eq_some_iff.1 c3).1⟩
    · intro hok hgo
      refine ⟨⟨w.heap.size, cur, e, updF_same .., c3, fun c hc => ?_, chF_VR _ m 0 cur.toList hcl (fun t ht => ?_)⟩, ?_⟩
      · obtain ⟨j, hj, rfl⟩ := List.getElem_of_mem hc
        rw [hcell j hj]
        exact hz1
      · rw [hcell t ht]
        exact hR _ _ _ _ _
      · refine ⟨_, newVer (t ob), rfl, ?_, Nat.le_refl _, fun _ _ => ⟨w.heap.size, updF_same .., rfl⟩⟩
        rw [upd_ne _ _ (by omega), upd_same]
        rfl

theorem RelB.atBsl {X : Cx} {t : St} {a : Act} {w : World} {β : Nat → Option Nat} {ν : Nat → Value} (hr : RelB P X t a w β ν) {x : Operand} {ob u m : Nat} {c : AV} (hk : ∀ k ∈ ob :: kx x, t k = s k) (hx : Sees (ev s x) (.bsl ob u m)) (hb : s ob = .box u c) :
    ∃ b, a.eval x = .slice (some ⟨b, 0, none⟩) m m ∧ β ob = some b := by
  obtain ⟨v, k, e, h1, h2, h3⟩ := hr.sees (fun k hk' => hk k (by simp [hk'])) hx
  simp only [List.cons.injEq, and_true] at e
  have hob : t ob = .box u c := by rw [hk ob (by simp), hb]
  rw [hob] at h1
  simp only [ver, Option.some.injEq] at h1
  obtain ⟨b, h4, h5⟩ := h3 h1 (by rw [hob]; rfl)
  exact ⟨b, by rw [e, h5], h4⟩

theorem p_lenB {x : Operand} {T e' ob u m : Nat} {c : AV} (ho : o.op = .call { callee := .builtin .len, args := #[x], argTypes := #[T] }) (hT : IsSlice P T e') (hx : Sees (ev s x) (.bsl ob u m)) (hb : s ob = .box u c) : PStep P o (ob :: kx x) s (.val (.int .i64 (m : Int))) := by
  intro X t a w β ν hk hr
  obtain ⟨b, q1, q2⟩ := hr.atBsl hk hx hb
  refine ⟨rfl, .int .i64 (m : Int), ?_, mk_int _ _ _⟩
  have hT' : P.underlying T = some (.slice e') := hT
  simp [execOp, ho, resolve, invoke, builtin, Builtin.len_, run_underlying' hT', q1, goInt]

theorem p_indexB {x i : Operand} {T e ob u m j : Nat} {k : IntKind} {c : AV} (ho : o.op = .indexAddr T x i) (hT : IsSlice P T e) (hs : Size P e 1) (hx : Sees (ev s x) (.bsl ob u m)) (hb : s ob = .box u c) (hi : Sees (ev s i) (.val (.int k (j : Int)))) (h1 : j < m) : PStep P o ((ob :: kx x) ++ kx i) s (.ref ob u j) := by
  intro X t a w β ν hk hr
  obtain ⟨b, q1, q2⟩ := hr.atBsl (kl hk) hx hb
  refine ⟨rfl, .pointer (some ⟨b, j, none⟩), ?_, ?_⟩
  · have hT' : P.underlying T = some (.slice e) := hT
    have hii := hr.int (kr hk) hi
    simp [execOp, ho, Instr.indexAt, hii, q1, asIntOf, run_underlying' hT', run_sizeOf hs, h1, Addr.add_none]
  · have hto : t ob = .box u c := by rw [hk ob (by simp), hb]
    exact ⟨_, u, rfl, by rw [hto]; rfl, Nat.le_refl _, fun _ _ => ⟨b, q2, rfl⟩⟩

/-- The whole, read: the outer slice, its rows. -/
theorem gather {X : Cx} {a : Act} {w : World} {β : Nat → Option Nat} {ν : Nat → Value} (hr : RelB P X s a w β ν) {t u e by_ : Nat} {m : Nat} {α : Type} {f : α → D} {z : α} {rows : Nat → List α} (ht : t < 10000) (hx : s t = .bsl 30001 u m) (hb : s 30001 = .box u (chF (fun j => .row (40000 + j) 0) 0 m)) (hF : ∀ j, j < m → s (40000 + j) = .arr 0 e 1 by_ f z (rows j)) (hm : m ≤ 140737488355328) (ok : Nat → Prop) (hok : ∀ b, okAt X s β w b → ok b) (hlo : ∀ o b, live (s o) = true → β o = some b → ok b) :
    RV P (.list 1 (fun l : List α => .list 1 f z l) [] ((List.range m).map rows)) ok w (a.tmps.getD t undef) := by
  have hs := hr.slot t ht
  rw [hx] at hs
  obtain ⟨v, k, e1, h1, h2, h3⟩ := hs
  simp only [List.cons.injEq, and_true] at e1
  rw [hb] at h1
  simp only [ver, Option.some.injEq] at h1
  obtain ⟨b, h4, h5⟩ := h3 h1 (by rw [hb]; rfl)
  have ho := hr.obj 30001
  rw [hb] at ho
  obtain ⟨b', cs, ty, g1, g2, g3, g4⟩ := ho
  rw [h4] at g1
  cases g1
  rw [e1, h5]
  refine ⟨rfl, some ⟨b, 0, none⟩, m, by simp [Value.cells], by simp, by simp only [maxLen]; omega, by simpa using hm, fun i hi => ?_⟩
  have hi : i < m := by simpa using hi
  obtain ⟨c, hc, hcv⟩ := VR_nth _ i g4 (by rw [chF_len]; exact hi)
  rw [chF_nth _ _ _ _ hi, Nat.zero_add] at hcv
  have hcl : i < cs.toList.length := (List.getElem?_eq_some_iff.1 hc).1
  refine ⟨⟨b, 0, none⟩, [c], rfl, rfl, hlo 30001 b (by rw [hb]; rfl) h4, rfl, fun q hq => by rw [List.mem_singleton.1 hq]; exact g3 c (List.mem_of_getElem? hc), fun j hj => ?_, ?_⟩
  · have hj0 : j = 0 := by simpa using hj
    subst hj0
    simp only [Nat.mul_one, Nat.add_zero, Nat.zero_add]
    have : cs[i]? = some c := by simpa using hc
    simp [World.cell?, g2, this]
  · obtain ⟨v', k', e2, q1, q2, q3⟩ := hcv
    simp only [List.cons.injEq, and_true] at e2
    subst e2
    have hFi := hF i hi
    rw [hFi] at q1
    simp only [ver, Option.some.injEq] at q1
    have hv' := q3 q1 (by rw [hFi]; rfl)
    have hoi := hr.obj (40000 + i)
    rw [hFi] at hoi
    obtain ⟨cells, p1, p2, p3, p4, p4', p5, p6⟩ := hoi
    rw [List.getElem_map, List.getElem_range, hv']
    rcases p1.2 with ⟨p7, p8⟩ | ⟨g, cap, cur, p7, p8, p9, p10, p11, p12, p13⟩
    · rw [p7]
      have : rows i = [] := List.eq_nil_of_length_eq_zero p8
      rw [this]
      exact ⟨none, 0, rfl, Nat.le_refl _, Nat.zero_le _, Nat.zero_le _, fun i hi => absurd hi (Nat.not_lt_zero _)⟩
    · rw [p7]
      refine ⟨some ⟨g, 0, none⟩, cap, rfl, p10, p11, p4', fun j hj => ?_⟩
      have hlc : cells.length = (rows i).length := by have := p1.1; omega
      have hjc : j < cells.length := by omega
      refine ⟨⟨g, 0, none⟩, [cells[j]], rfl, rfl, hlo (40000 + i) g (by rw [hFi]; rfl) (by rw [p2, p7]; rfl), rfl, fun q hq => by rw [List.mem_singleton.1 hq]; exact p5 _ (List.getElem_mem hjc), fun q hq => ?_, ?_⟩
      · have hq0 : q = 0 := by simpa using hq
        subst hq0
        simp only [Nat.mul_one, Nat.add_zero, Nat.zero_add]
        have : cur[j]? = some cells[j] := by
          have h : (cur.toList.take ((rows i).length * 1))[j]? = some cells[j] := by rw [p13]; exact List.getElem?_eq_getElem hjc
          rw [List.getElem?_take, if_pos (by omega)] at h
          simpa using h
        simp [World.cell?, p9, this]
      · have h := p6 j hj
        have e3 : (cells.drop (j * 1)).take 1 = [cells[j]] := by
          rw [Nat.mul_one, List.drop_eq_getElem_cons hjc]
          rfl
        rw [e3] at h
        exact R_mono _ (fun b hb => ⟨hok b hb, rfl⟩) (Nat.le_refl _) h

/-! ### A row of the family under a key of its own for a while -/

theorem rename {a b i m u e sz by_ : Nat} {α : Type} {g : α → D} {z : α} {xs : List α} {f : Nat → AV} (ha : 10000 ≤ a) (hb : 10000 ≤ b) (hab : a ≠ b) (ha1 : a ≠ 30001) (hb1 : b ≠ 30001) (ha2 : a ≠ 29999) (hb2 : b ≠ 29999) (hsb : s b = .any) (hsa : s a = .arr 0 e sz by_ g z xs)
    (hB : s 30001 = .box u (chF f 0 m)) (hi : i < m) (hf : f i = .row a 0) : Le P s (upd (upd (upd s 30001 (.box u (chF (fun j => if j = i then .row b 0 else f j) 0 m))) b (.arr 0 e sz by_ g z xs)) a (.dead 0)) := by
  rintro X act w ⟨β, ν, hr⟩
  obtain ⟨s', hs'⟩ : ∃ s', upd (upd (upd s 30001 (.box u (chF (fun j => if j = i then .row b 0 else f j) 0 m))) b (.arr 0 e sz by_ g z xs)) a (.dead 0) = s' := ⟨_, rfl⟩
  rw [hs']
  have ea : s' a = .dead 0 := by rw [← hs', upd_same]
  have eb : s' b = .arr 0 e sz by_ g z xs := by rw [← hs', upd_ne _ _ (Ne.symm hab), upd_same]
  have eB : s' 30001 = .box u (chF (fun j => if j = i then .row b 0 else f j) 0 m) := by rw [← hs', upd_ne _ _ (Ne.symm ha1), upd_ne _ _ (Ne.symm hb1), upd_same]
  have eo : ∀ o, o ≠ a → o ≠ b → o ≠ 30001 → s' o = s o := fun o h1 h2 h3 => by rw [← hs', upd_ne _ _ h1, upd_ne _ _ h2, upd_ne _ _ h3]
  have hla : live (s a) = true := by rw [hsa]; rfl
  have hlB : live (s 30001) = true := by rw [hB]; rfl
  have hlive : ∀ o, o ≠ b → live (s' o) = true → live (s o) = true ∧ o ≠ a := by
    intro o h1 h2
    by_cases h3 : o = a
    · subst h3; rw [ea] at h2; cases h2
    · by_cases h4 : o = 30001
      · subst h4; exact ⟨hlB, h3⟩
      · rw [eo o h3 h1 h4] at h2; exact ⟨h2, h3⟩
  have hgoes : Goes s s' β (updF β b (β a)) ν (updF ν b (ν a)) := by
    intro o k hk
    by_cases h1 : o = b
    · subst h1; rw [hsb] at hk; cases hk
    · by_cases h2 : o = a
      · subst h2
        rw [hsa] at hk
        simp only [ver, Option.some.injEq] at hk
        exact ⟨0, by rw [ea]; rfl, by omega, fun _ hl => by rw [ea] at hl; cases hl⟩
      · by_cases h3 : o = 30001
        · subst h3
          rw [hB] at hk
          exact ⟨k, by rw [eB]; exact hk, Nat.le_refl _, fun _ _ => ⟨hlB, updF_ne _ _ h1, updF_ne _ _ h1⟩⟩
        · exact ⟨k, by rw [eo o h2 h1 h3]; exact hk, Nat.le_refl _, fun _ hl => ⟨by rw [← eo o h2 h1 h3]; exact hl, updF_ne _ _ h1, updF_ne _ _ h1⟩⟩
  have hok : ∀ q, okAt X s β w q → okAt X s' (updF β b (β a)) w q ∧ w.heap[q]? = w.heap[q]? := by
    intro q hq
    refine ⟨⟨hq.1, hq.2.1, fun o hl => ?_⟩, rfl⟩
    by_cases h1 : o = b
    · subst h1; rw [updF_same]; exact hq.2.2 a hla
    · rw [updF_ne _ _ h1]; exact hq.2.2 o (hlive o h1 hl).1
  refine ⟨updF β b (β a), updF ν b (ν a), hr.move rfl rfl ⟨rfl, Nat.le_refl _⟩ (Nat.le_refl _) (fun _ _ _ => rfl) hok hgoes ?_ ?_ ?_ ?_ ?_ rfl rfl ?_⟩
  · intro o q hl hq
    by_cases h1 : o = b
    · subst h1; rw [updF_same] at hq; exact .inr (hr.own a q hla hq)
    · rw [updF_ne _ _ h1] at hq; exact .inl ⟨(hlive o h1 hl).1, hq⟩
  · intro o o' q hl hl' hq hq'
    by_cases h1 : o = b
    · by_cases h2 : o' = b
      · rw [h1, h2]
      · subst h1
        rw [updF_same] at hq
        rw [updF_ne _ _ h2] at hq'
        exact absurd (hr.inj a o' q hla (hlive o' h2 hl').1 hq hq').symm (hlive o' h2 hl').2
    · rw [updF_ne _ _ h1] at hq
      by_cases h2 : o' = b
      · subst h2
        rw [updF_same] at hq'
        exact absurd (hr.inj o a q (hlive o h1 hl).1 hla hq hq') (hlive o h1 hl).2
      · rw [updF_ne _ _ h2] at hq'
        exact hr.inj o o' q (hlive o h1 hl).1 (hlive o' h2 hl').1 hq hq'
  · intro o hl
    by_cases h1 : o = b
    · subst h1
      right
      rw [eb]
      have ho := hr.obj a
      rw [hsa] at ho
      obtain ⟨cells, g1, g2, g3, g4, g4', g5, g6⟩ := ho
      exact ⟨cells, by rw [updF_same]; exact g1, by rw [updF_same, updF_same]; exact g2, g3, g4, g4', g5, fun i hi => R_mono _ hok (Nat.le_refl _) (g6 i hi)⟩
    · by_cases h3 : o = 30001
      · subst h3
        right
        rw [eB]
        have ho := hr.obj 30001
        rw [hB] at ho
        obtain ⟨q, cs, ty, g1, g2, g3, g4⟩ := ho
        have hlen : cs.toList.length = m := chF_vlen _ _ _ _ g4
        refine ⟨q, cs, ty, by rw [updF_ne _ _ h1]; exact g1, g2, g3, chF_VR _ m 0 _ hlen (fun t ht => ?_)⟩
        obtain ⟨c, hc, hv⟩ := VR_nth _ t g4 (by rw [chF_len]; omega)
        rw [chF_nth _ _ _ _ (by omega), Nat.zero_add] at hv
        rw [List.getElem?_eq_getElem ht] at hc
        cases hc
        rw [Nat.zero_add]
        by_cases e1 : t = i
        · rw [if_pos e1]
          subst e1
          rw [hf] at hv
          obtain ⟨v, k, e2, q1, q2, q3⟩ := hv
          rw [hsa] at q1
          simp only [ver, Option.some.injEq] at q1
          refine ⟨v, 0, e2, by rw [eb]; rfl, Nat.le_refl _, fun _ _ => ?_⟩
          rw [updF_same]
          exact q3 q1 hla
        · rw [if_neg e1]
          exact VR_mono' hok (Nat.le_refl _) _ (fun o _ => hgoes o) hv
      · left
        have h2 := (hlive o h1 hl).2
        exact ⟨eo o h2 h1 h3, updF_ne _ _ h1, updF_ne _ _ h1, fun _ _ => rfl⟩
  · intro t ht
    left
    exact ⟨eo t (by omega) (by omega) (by omega), rfl⟩
  · intro t ht
    rw [eo t (by omega) (by omega) (by omega)]
    exact hr.keys t ht
  · intro hv
    exact .inl (eo 29999 (Ne.symm ha2) (Ne.symm hb2) (by decide))

theorem allEq_upd {s : St} {k : Nat} {x : AV} : ∀ {l : List (Nat × AV)}, (∀ p ∈ l, p.1 ≠ k) → allEq s l → allEq (upd s k x) l
  | [], _, _ => trivial
  | (j, y) :: l, h, hs => ⟨by rw [upd_ne _ _ (h _ (List.mem_cons_self ..))]; exact hs.1, allEq_upd (fun p hp => h p (List.mem_cons_of_mem _ hp)) hs.2⟩
theorem blt_of {a b : Nat} (h : a < b) : Nat.blt a b = true := by simpa [Nat.blt] using Nat.ble_eq_true_of_le (show a + 1 ≤ b by omega)

def freeG (l : List (Nat × AV)) : Bool := l.all fun p => Nat.blt p.1 40000 && !Nat.beq p.1 30001 && !Nat.beq p.1 30002
theorem freeG_use {l : List (Nat × AV)} (h : freeG l = true) : ∀ p ∈ l, p.1 < 40000 ∧ p.1 ≠ 30001 ∧ p.1 ≠ 30002 := by
  intro p hp
  have := List.all_eq_true.1 h p hp
  simp only [Bool.and_eq_true, Bool.not_eq_true'] at this
  refine ⟨blt_lt this.1.1, fun e => ?_, fun e => ?_⟩
  · rw [e] at this; exact absurd this.1.2 (by decide)
  · rw [e] at this; exact absurd this.2 (by decide)
theorem closedG_cons {l : List (Nat × AV)} {k : Nat} {x : AV} (hk : Nat.blt k 40000 = true) (hx : ment x = []) (h : closedG l = true) : closedG ((k, x) :: l) = true := by
  unfold closedG at h ⊢
  rw [List.all_eq_true] at h ⊢
  intro p hp
  rcases List.mem_cons.1 hp with rfl | hp
  · simp [hk, hx]
  · have := h p hp
    simp only [Bool.and_eq_true, List.all_eq_true, Bool.or_eq_true, List.any_eq_true] at this ⊢
    refine ⟨this.1, fun o ho => ?_⟩
    rcases this.2 o ho with h1 | ⟨q, hq, h1⟩
    · exact .inl h1
    · exact .inr ⟨q, List.mem_cons_of_mem _ hq, h1⟩

theorem le_out {l : List (Nat × AV)} {m i u e by_ : Nat} {F F' f f' : Nat → AV} {α : Type} {g : α → D} {z : α} {xs : List α} (hi : i < m) (hfr : freeG l = true) (hc : closedG l = true) (h : allEq (grid l m F u (chF f 0 m)) l) (h0 : ofL l 30002 = .any) (hx : F i = .arr 0 e 1 by_ g z xs) (hf : f i = .row (40000 + i) 0)
    (hfm : ∀ j, j < m → ∀ o ∈ ment (f j), o = 40000 + j) (hF0 : ∀ j, j < m → ment (F j) = []) (hF' : ∀ j, F' j = if j = i then .any else F j) (hf' : ∀ j, f' j = if j = i then .row 30002 0 else f j) :
    Le P (grid l m F u (chF f 0 m)) (grid ((30002, .arr 0 e 1 by_ g z xs) :: l) m F' u (chF f' 0 m)) := by
  have hu := freeG_use hfr
  have e1 : F' = fun j => if j = i then .any else F j := funext hF'
  have e2 : f' = fun j => if j = i then .row 30002 0 else f j := funext hf'
  have hs1 : grid l m F u (chF f 0 m) 30002 = .any := (fam_lo (by decide)).trans h0
  have hs2 : grid l m F u (chF f 0 m) (40000 + i) = .arr 0 e 1 by_ g z xs := (fam_at hi).trans hx
  have hs3 : grid l m F u (chF f 0 m) 30001 = .box u (chF f 0 m) := fam_lo (by decide)
  refine Le.trans (rename (a := 40000 + i) (b := 30002) (by omega) (by decide) (by omega) (by omega) (by decide) (by omega) (by decide) hs1 hs2 hs3 hi hf) ?_
  rw [e1, e2]
  refine le_grid (l := (30002, .arr 0 e 1 by_ g z xs) :: l) ⟨by rw [upd_ne _ _ (by omega), upd_same], allEq_upd (fun p hp => by have := hu p hp; omega) (allEq_upd (fun p hp => (hu p hp).2.2) (allEq_upd (fun p hp => (hu p hp).2.1) h))⟩ (closedG_cons (by decide) rfl hc) (by rw [upd_ne _ _ (by omega), upd_ne _ _ (by decide), upd_same]) (fun o ho => ?_) (fun j hj => ?_) (fun j hj => ?_)
  · obtain ⟨t, ht, ho⟩ := chF_ment _ _ _ _ ho
    rw [Nat.zero_add] at ho
    by_cases e : t = i
    · rw [if_pos e] at ho
      simp only [ment, List.mem_singleton] at ho
      exact .inl ⟨by rw [ho]; decide, _, List.mem_cons_self .., ho.symm⟩
    · rw [if_neg e] at ho
      refine .inr ⟨t, ht, hfm t ht o ho, ?_⟩
      rw [if_neg e, upd_ne _ _ (by omega), upd_ne _ _ (by omega), upd_ne _ _ (by omega)]
      exact fam_at ht
  · by_cases e : j = i
    · right
      rw [if_pos e]
    · left
      rw [if_neg e, upd_ne _ _ (by omega), upd_ne _ _ (by omega), upd_ne _ _ (by omega)]
      exact fam_at hj
  · by_cases e : j = i
    · rw [if_pos e]; rfl
    · rw [if_neg e]; exact hF0 j hj

theorem le_in {l : List (Nat × AV)} {m i u e by_ : Nat} {F F' f f' : Nat → AV} {α : Type} {g : α → D} {z : α} {xs : List α} (hi : i < m) (hfr : freeG l = true) (hc : closedG l = true) (h : allEq (grid ((30002, .arr 0 e 1 by_ g z xs) :: l) m F u (chF f 0 m)) l) (hx : F i = .any) (hf : f i = .row 30002 0)
    (hfm : ∀ j, j < m → j ≠ i → ∀ o ∈ ment (f j), o = 40000 + j) (hF0 : ∀ j, j < m → ment (F j) = []) (hF' : ∀ j, F' j = if j = i then .arr 0 e 1 by_ g z xs else F j) (hf' : ∀ j, f' j = if j = i then .row (40000 + i) 0 else f j) :
    Le P (grid ((30002, .arr 0 e 1 by_ g z xs) :: l) m F u (chF f 0 m)) (grid l m F' u (chF f' 0 m)) := by
  have hu := freeG_use hfr
  have e1 : F' = fun j => if j = i then .arr 0 e 1 by_ g z xs else F j := funext hF'
  have e2 : f' = fun j => if j = i then .row (40000 + i) 0 else f j := funext hf'
  have hs1 : grid ((30002, .arr 0 e 1 by_ g z xs) :: l) m F u (chF f 0 m) 30002 = .arr 0 e 1 by_ g z xs := fam_lo (by decide)
  have hs2 : grid ((30002, .arr 0 e 1 by_ g z xs) :: l) m F u (chF f 0 m) (40000 + i) = .any := (fam_at hi).trans hx
  have hs3 : grid ((30002, .arr 0 e 1 by_ g z xs) :: l) m F u (chF f 0 m) 30001 = .box u (chF f 0 m) := fam_lo (by decide)
  refine Le.trans (rename (a := 30002) (b := 40000 + i) (by decide) (by omega) (by omega) (by decide) (by omega) (by decide) (by omega) hs2 hs1 hs3 hi hf) ?_
  rw [e1, e2]
  refine le_grid (allEq_upd (fun p hp => (hu p hp).2.2) (allEq_upd (fun p hp => by have := hu p hp; omega) (allEq_upd (fun p hp => (hu p hp).2.1) h))) hc (by rw [upd_ne _ _ (by decide), upd_ne _ _ (by omega), upd_same]) (fun o ho => ?_) (fun j hj => ?_) (fun j hj => ?_)
  · obtain ⟨t, ht, ho⟩ := chF_ment _ _ _ _ ho
    rw [Nat.zero_add] at ho
    by_cases e : t = i
    · rw [if_pos e] at ho
      simp only [ment, List.mem_singleton] at ho
      refine .inr ⟨i, hi, ho, ?_⟩
      rw [if_pos rfl, upd_ne _ _ (by omega), upd_same]
    · rw [if_neg e] at ho
      refine .inr ⟨t, ht, hfm t ht e o ho, ?_⟩
      rw [if_neg e, upd_ne _ _ (by omega), upd_ne _ _ (by omega), upd_ne _ _ (by omega)]
      exact fam_at ht
  · left
    by_cases e : j = i
    · rw [if_pos e, e, upd_ne _ _ (by omega), upd_same]
    · rw [if_neg e, upd_ne _ _ (by omega), upd_ne _ _ (by omega), upd_ne _ _ (by omega)]
      exact fam_at hj
  · by_cases e : j = i
    · rw [if_pos e]; rfl
    · rw [if_neg e]; exact hF0 j hj

/-- The result of a function that hands the whole back. -/
theorem res_grid {t u e by_ m : Nat} {α : Type} {f : α → D} {z : α} {rows : Nat → List α} (ht : Nat.blt t 10000 = true) (hx : s t = .bsl 30001 u m) (hb : s 30001 = .box u (chF (fun j => .row (40000 + j) 0) 0 m)) (hF : ∀ j, j < m → s (40000 + j) = .arr 0 e 1 by_ f z (rows j)) (hm : m ≤ 140737488355328) :
    ResOne P s (.tmp t) (.list 1 (fun l : List α => .list 1 f z l) [] ((List.range m).map rows)) := by
  intro X a w β ν hbor hr
  refine ⟨a.tmps.getD t undef, rfl, gather hr (blt_lt ht) hx hb hF hm _ (fun b hb => ⟨hb.1.elim .inl (fun h => h.elim .inr (fun h => absurd h (hbor b))), hb.2.1⟩) (fun o b hl hb => ?_)⟩
  obtain ⟨h1, h2⟩ := hr.own o b hl hb
  exact ⟨.inr (h1.elim id (fun h => absurd h (hbor b))), h2⟩

/-- A loop over states of any form. -/
def lopG (P : Program) {α : Type} (I : α → Prop) (S : α → St) (μ : α → Nat) (x : α) (Q : Exit → St → Prop) : Exit → St → Prop
  | .normal, s => ∃ y, I y ∧ μ y < μ x ∧ Le P s (S y)
  | e, s => Q e s
end

section
variable {P : Program} {n : Nm} {s : St} {Q : Exit → St → Prop} {l : List Code}
theorem f_loopG {α : Type} (I : α → Prop) (S : α → St) (μ : α → Nat) {c : Code} (a0 : α) (h0 : I a0) (hs : Le P s (S a0)) (round : ∀ x, I x → AWs P n [c] (S x) (lopG P I S μ x (thn (fun s' => AWs P n l s' Q) Q))) : AWs P n (.loop c :: l) s Q := by
  refine AW.loop I S μ a0 h0 hs (fun x hx => AW.mono (round x hx).one (fun e s h => ?_))
  cases e <;> exact h
theorem f_backG {α : Type} {I : α → Prop} {S : α → St} {μ : α → Nat} {x : α} (h : ∃ y, I y ∧ μ y < μ x ∧ Le P s (S y)) : AWs P n [] s (lopG P I S μ x Q) := h
end

/-! ### A variable that is never written again, as given data -/
section
variable {P : Program} {s : St}

theorem shc_one {q : Bool} {y : AV} {d : D} {K : List Nat} (hd : d.one = true) (hc : Shows q P K s y (.val d)) : ShowsC q P K s (.ccons y .cnil) d := by
  rintro X t a w β ν vs hk hr ⟨v, vs', rfl, g1, g2⟩
  obtain ⟨v', e1, g3, g4⟩ := hc X t a w β ν v hk hr g1
  simp only [List.cons.injEq, and_true] at e1
  subst e1
  simp only [VR] at g2
  subst g2
  exact (RV_one hd ⟨g3, g4⟩).1

theorem g_seal {o1 u k : Nat} {c : AV} {d : D} (hk4 : Nat.blt k 10000 = true) (ho4 : Nat.blt 9999 o1 = true) (hx : s k = .ref o1 u 0) (hb : s o1 = .box u c) (hc : ShowsC false P [] s c d) :
    GLe P ([o1, k], [k, o1]) s (upd (upd s o1 (.dead u)) k (.ptr d)) := by
  refine ⟨off_two, fun X t a w hk hr => ?_⟩
  obtain ⟨β, ν, hr⟩ := hr
  have hk' := blt_lt hk4
  have ho' := blt_lt ho4
  rw [ovr_two (by omega)]
  have hto : t o1 = .box u c := by rw [hk o1 (by simp), hb]
  have hv := hr.slot k hk'
  rw [hk k (by simp), hx] at hv
  obtain ⟨v, m, e1, h1, h2, h3⟩ := hv
  rw [hto] at h1
  simp only [ver, Option.some.injEq] at h1
  obtain ⟨b, h4, rfl⟩ := h3 h1 (by rw [hto]; rfl)
  have ho := hr.obj o1
  rw [hto] at ho
  obtain ⟨b', cs, ty, g1, g2, g3, g4⟩ := ho
  rw [h4] at g1
  cases g1
  have hlo : live (t o1) = true := by rw [hto]; rfl
  have hs : ∀ j, j ≠ o1 → j ≠ k → upd (upd t o1 (.dead u)) k (.ptr d) j = t j := fun j h1 h2 => by rw [upd_ne _ _ h2, upd_ne _ _ h1]
  have hso : upd (upd t o1 (.dead u)) k (.ptr d) o1 = .dead u := by rw [upd_ne _ _ (by omega), upd_same]
  have hlv : ∀ j, live (upd (upd t o1 (.dead u)) k (.ptr d) j) = true → j ≠ o1 ∧ j ≠ k ∧ upd (upd t o1 (.dead u)) k (.ptr d) j = t j := by
    intro j hj
    have h1 : j ≠ o1 := by rintro rfl; rw [hso] at hj; cases hj
    have h2 : j ≠ k := by rintro rfl; rw [upd_same] at hj; cases hj
    exact ⟨h1, h2, hs j h1 h2⟩
  have hgoes : Goes t (upd (upd t o1 (.dead u)) k (.ptr d)) β β ν ν := by
    intro j m hm
    by_cases e1 : j = o1
    · subst e1
      rw [hto] at hm
      simp only [ver, Option.some.injEq] at hm
      exact ⟨u, by rw [hso]; rfl, by omega, fun _ hl => by rw [hso] at hl; cases hl⟩
    · by_cases e2 : j = k
      · subst e2; rw [hr.keys j hk'] at hm; cases hm
      · refine ⟨m, by rw [hs j e1 e2]; exact hm, Nat.le_refl _, fun _ hl => ⟨by rw [← hs j e1 e2]; exact hl, rfl, rfl⟩⟩
  have hok : ∀ b, okAt X t β w b → okAt X (upd (upd t o1 (.dead u)) k (.ptr d)) β w b ∧ w.heap[b]? = w.heap[b]? := by
    intro b hb'
    refine ⟨⟨hb'.1, hb'.2.1, fun j hl => hb'.2.2 j ?_⟩, rfl⟩
    rw [← (hlv j hl).2.2]; exact hl
  refine ⟨β, ν, hr.move rfl rfl ⟨rfl, Nat.le_refl _⟩ (Nat.le_refl _) (fun _ _ _ => rfl) hok hgoes ?_ ?_ ?_ ?_ ?_ rfl rfl (fun hv => .inl (hs _ (by intro e; rw [e, hso] at hv; cases hv) (by omega)))⟩
  · intro j b hl hb'; exact .inl ⟨by rw [← (hlv j hl).2.2]; exact hl, hb'⟩
  · intro j j' b hl hl' h1 h2
    exact hr.inj j j' b (by rw [← (hlv j hl).2.2]; exact hl) (by rw [← (hlv j' hl').2.2]; exact hl') h1 h2
  · intro j hl; exact .inl ⟨(hlv j hl).2.2, rfl, rfl, fun _ _ => rfl⟩
  · intro j hj
    by_cases e2 : j = k
    · subst e2
      right
      rw [upd_same]
      have hw := hr.own o1 b hlo h4
      refine ⟨⟨b, 0, none⟩, cs.toList, e1, rfl, ⟨.inr hw.1, hw.2, fun j' hl hj' => ?_⟩, g3, ?_, R_mono d hok (Nat.le_refl _) (hc X t a w β ν _ (fun k hk' => nomatch hk') hr g4)⟩
      · obtain ⟨e3, _, e4⟩ := hlv j' hl
        exact e3 (hr.inj j' o1 b (by rw [← e4]; exact hl) hlo hj' h4)
      · intro j hj
        simp only [World.cell?, g2]
        simp at hj
        simp [hj]
    · left; exact ⟨hs j (by omega) e2, rfl⟩
  · intro j hj
    by_cases e2 : j = k
    · subst e2; rw [upd_same]; rfl
    · rw [hs j (by omega) e2]; exact hr.keys j hj
theorem g_sealS {o1 u k : Nat} {c : AV} {d : D} (hk4 : Nat.blt k 10000 = true) (ho4 : Nat.blt 9999 o1 = true) (hx : s k = .ref o1 u 0) (hb : s o1 = .box u c) (hc : ShowsC false P [] s c d) :
    GLe P ([o1, k], [k, o1]) s (upd (upd s o1 (.dead u)) k (.ptr (.agg d))) := g_seal (d := .agg d) hk4 ho4 hx hb hc
end
end Go.Um
