/- Calls that make a row of the caller's own; 'make'; nil slices. No condition. -/
import Derived.Test.YtpjenbbalengoaaAri
import Derived.Laws.OwnMore
namespace Go.Um
open Go Go.RowKit

section
variable {P : Program} {n : Nat} {ops : Array Oper} {s : St} {o : Oper}

/-- A row reads as a list. -/
theorem row_reads' {ok ok' : Nat → Prop} {w : World} {sz e m : Nat} {v : Value} {cells : List Value} {α : Type} {f : α → D} {z : α} {xs : List α} (hown : w.ownsRow 0 e sz v m cells) (hm : m = xs.length) (hok : ∀ b, ok b → ok' b) (hb : ∀ b, v.ownBlock = some b → ok' b)
    (h1 : ∀ c ∈ cells, c.oneCell' = true) (hl : xs.length ≤ 140737488355328) (hR : ∀ i (h : i < xs.length), R P (f xs[i]) ok w ((cells.drop (i * sz)).take sz)) : RV P (.list sz f z xs) ok' w v := by
  subst hm
  rcases hown.2 with ⟨rfl, h0⟩ | ⟨g, cap, cur, rfl, _, hg, hnc, hcm, hcs, htake⟩
  · have : xs = [] := List.eq_nil_of_length_eq_zero h0
    subst this
    exact ⟨rfl, none, 0, rfl, Nat.le_refl _, Nat.zero_le _, Nat.zero_le _, fun i hi => by simp at hi⟩
  · refine ⟨rfl, some ⟨g, 0, none⟩, cap, rfl, hnc, hcm, hl, fun i hi => ?_⟩
    have hlen : ((cells.drop (i * sz)).take sz).length = sz := by
      have : (i + 1) * sz ≤ xs.length * sz := Nat.mul_le_mul_right _ hi
      rw [Nat.add_mul, Nat.one_mul] at this
      simp [hown.1]
      omega
    refine ⟨⟨g, 0, none⟩, (cells.drop (i * sz)).take sz, rfl, rfl, hb g rfl, hlen, fun c hc => h1 c (List.mem_of_mem_drop (List.mem_of_mem_take hc)), ?_, R_mono _ (fun b hb' => ⟨hok b hb', rfl⟩) (Nat.le_refl _) (hR i hi)⟩
    intro j hj
    have hc := hown.cells (g := g) rfl (i * sz + j) (((cells.drop (i * sz)).take sz)[j]) (by
      rw [← List.getElem?_drop, ← List.getElem?_eq_getElem, List.getElem?_take, if_pos (by rw [hlen] at hj; exact hj)])
    rw [Addr.add_none rfl] at hc
    simpa using hc

/-- A value that is a row in new memory, of nobody else's. -/
def NewRow (P : Program) (n0 : Nat) (ok : Nat → Prop) (e sz by_ : Nat) {α : Type} (f : α → D) (xs : List α) (w : World) (v : Value) : Prop :=
  ∃ cells, w.ownsRow 0 e sz v xs.length cells ∧ (∀ b, v.ownBlock = some b → n0 ≤ b) ∧ 0 < sz ∧ xs.length * by_ ≤ 140737488355328 ∧ xs.length ≤ 140737488355328 ∧ (∀ c ∈ cells, c.oneCell' = true) ∧
    ∀ i (h : i < xs.length), R P (f xs[i]) (fun b => (ok b ∨ (n0 ≤ b ∧ b < w.heap.size)) ∧ v.ownBlock ≠ some b) w ((cells.drop (i * sz)).take sz)

/-- THE CONTRACT OF A FUNCTION THAT MAKES A ROW of the caller's own. -/
def SpecN (P : Program) (f : FuncId) (args : List AV) (e sz by_ : Nat) {α : Type} (g : α → D) (xs : List α) : Prop :=
  ∀ (w : World) (ok : Nat → Prop) (vs : List Value), (∀ b, ok b → b < w.heap.size) → ArgsR P ok w args vs → Calls P f vs.toArray w (fun en w' => ∃ v, en = .returned v ∧ NewRow P w.heap.size ok e sz by_ g xs w' v ∧ Belw w.heap.size w w')

theorem SpecN.spec {f : FuncId} {args : List AV} {e sz by_ : Nat} {α : Type} {g : α → D} {xs : List α} (h : SpecN P f args e sz by_ g xs) (z : α) : Spec P f args (.list sz g z xs) := by
  intro w ok vs hok hargs
  refine (h w ok vs hok hargs).mono ?_
  rintro en w' ⟨v, rfl, ⟨cells, h1, h2, h3, h4, h5, h6, h7⟩, hb⟩
  exact ⟨v, rfl, row_reads' h1 rfl (fun b hb' => hb'.1) (fun b hb' => .inr ⟨h2 b hb', (h1.lt b hb').2⟩) h6 h5 h7, hb⟩

/-- A call of a function that makes a row. -/
theorem r_callN {q : Bool} {f : FuncId} {xs : List Operand} {T : Array TypeId} {ys : List AV} {K : List Nat} {d ob e sz by_ : Nat} {α : Type} {g : α → D} (z : α) {l : List α} (ho : o.op = .call { callee := .value (.func f), args := xs.toArray, argTypes := T }) (hf : IsFn P f) (hx : SArgs q P s xs ys K)
    (hq : q = false ∨ ∀ x, (g x).flat = true) (hs : SpecN P f ys e sz by_ g l) (hd : o.dst = some d) (hg : o.guard = none) (hob : Nat.blt 9999 ob = true) (hn : Nat.blt d n = true) (h4 : Nat.blt d 10000 = true) :
    LStep P n ops o (ob :: K, [d, ob]) s (upd (upd s ob (.arr (newVer (s ob)) e sz by_ g z l)) d (.row ob (newVer (s ob)))) := by
  refine ⟨off_two, fun X t a w hX hk hr Q => ?_⟩
  obtain ⟨β, ν, hr⟩ := hr
  have hob' := blt_lt hob
  have hd4 := blt_lt h4
  have hargs := SArgs.args hr (fun k hk' => hk k (List.mem_cons_of_mem _ hk')) hx
  have hc := hs w (okq q X t β w) _ (fun b hb => okq_lt hb) hargs
  have hrun : (execOp a.eval o).run P w = .ok (.enter f (xs.map a.eval).toArray) w := by
    simp [execOp, ho, resolve, Act.eval, Deferred.ofValue, invoke, run_callFunc hf]
  unfold opWp
  rw [if_pos (by simp [Region.wanted, hg])]
  left
  unfold Oper.wp
  rw [hrun]
  refine hc.mono ?_
  rintro en w' ⟨v, rfl, ⟨cells, g1, g2, g3, g4, g5, g6, g7⟩, hbel⟩
  have hto : t ob = s ob := hk ob (by simp)
  show Rel P X (ovr t [d, ob] _) (a.put o.dst v) w'
  rw [ovr_two (by omega), hd, ← hto]
  refine ⟨updF β ob v.ownBlock, updF ν ob v, hr.newObj (Kill.refl t) (by omega) (by rw [hX]; exact blt_lt hn) hd4 hbel.os hbel.tape ⟨hbel.output, hbel.drawn⟩ hbel.size (fun b hb => .inl (hbel.block b hb)) (fun b hb => .inl ⟨g2 b hb, (g1.lt b hb).2⟩) rfl rfl ?_⟩
  intro hok hgo
  refine ⟨⟨cells, by rw [updF_same]; exact g1, by rw [updF_same, updF_same], g3, g4, g5, g6, fun i hi => ?_⟩, _, _, rfl, by rw [upd_ne _ _ (by omega), upd_same]; rfl, Nat.le_refl _, fun _ _ => (updF_same ..).symm⟩
  rcases hq with rfl | hq
  · refine R_mono _ (fun b hb => ⟨?_, rfl⟩) (Nat.le_refl _) (g7 i hi)
    obtain ⟨hb1 | hb1, hb2⟩ := hb
    · exact (hok b hb1).1
    · refine ⟨.inr (.inl (Nat.le_trans hr.size hb1.1)), hb1.2, fun o' hl h => ?_⟩
      by_cases eo : o' = ob
      · subst eo; rw [updF_same] at h; exact hb2 h
      · rw [updF_ne _ _ eo] at h
        by_cases ed : o' = d
        · subst ed; rw [upd_same] at hl; cases hl
        · rw [upd_ne _ _ ed, upd_ne _ _ eo] at hl
          have := (hr.own o' b hl h).2
          omega
  · exact R_flat _ (hq _) (g7 i hi)

/-- The same calls, their contracts first. -/
theorem c_callS {q : Bool} {f : FuncId} {xs : List Operand} {T : Array TypeId} {ys : List AV} {K : List Nat} {r : D} (ho : o.op = .call { callee := .value (.func f), args := xs.toArray, argTypes := T }) (hf : IsFn P f) (hs : Spec P f ys r) (hx : SArgs q P s xs ys K) (hq : (!q || r.flat) = true) : CStep P o K s (.val r) := c_callQ ho hf hx hq hs

theorem r_callS {q : Bool} {f : FuncId} {xs : List Operand} {T : Array TypeId} {ys : List AV} {K : List Nat} {d ob e sz by_ : Nat} {α : Type} {g : α → D} (z : α) {l : List α} (ho : o.op = .call { callee := .value (.func f), args := xs.toArray, argTypes := T }) (hf : IsFn P f) (hs : SpecN P f ys e sz by_ g l) (hx : SArgs q P s xs ys K)
    (hq : q = false ∨ ∀ x, (g x).flat = true) (hd : o.dst = some d) (hg : o.guard = none) (hob : Nat.blt 9999 ob = true) (hn : Nat.blt d n = true) (h4 : Nat.blt d 10000 = true) :
    LStep P n ops o (ob :: K, [d, ob]) s (upd (upd s ob (.arr (newVer (s ob)) e sz by_ g z l)) d (.row ob (newVer (s ob)))) := r_callN z ho hf hx hq hs hd hg hob hn h4

/-- A call of a function that has captured values. -/
theorem c_callC {q : Bool} {x : Operand} {F : FuncId} {c : AV} {xs : List Operand} {T : Array TypeId} {ys us : List AV} {K K' : List Nat} {r : D} (ho : o.op = .call { callee := .value x, args := xs.toArray, argTypes := T }) (hf : IsFn P F) (hs : Spec P F (ys ++ us) r) (hx : Sees (ev s x) (.clo F c)) (hc : ShowsL q P s c us K') (hy : SArgs q P s xs ys K) (hq : (!q || r.flat) = true) :
    CStep P o (kx x ++ (K ++ K')) s (.val r) := by
  intro X t a w β ν hk hr
  refine ⟨rfl, fun Q K1 hK => ?_⟩
  have hargs := SArgs.args hr (kl (kr hk)) hy
  obtain ⟨caps, e1, hcaps⟩ := hr.sees (kl hk) hx
  simp only [List.cons.injEq, and_true] at e1
  have hA := ArgsR_append hargs (hc.args X t a w β ν _ (kr (kr hk)) hr hcaps)
  have hC := hs w (okq q X t β w) _ (fun b hb => okq_lt hb) hA
  have hrun : (execOp a.eval o).run P w = .ok (.enter F (xs.map a.eval ++ caps.toList).toArray) w := by
    simp [execOp, ho, resolve, e1, Deferred.ofValue, invoke, run_callFunc hf]
  unfold Oper.wp
  rw [hrun]
  refine hC.mono ?_
  rintro e w' ⟨v, rfl, hv, hbel⟩
  refine hK v w' (hr.below hbel) ⟨v, rfl, hv.1, ?_⟩
  cases q with
  | true => exact R_flat _ (by simpa using hq) hv.2
  | false =>
    refine R_mono _ (fun b hb => ⟨?_, rfl⟩) (Nat.le_refl _) hv.2
    rcases hb with hb | hb
    · exact ⟨hb.1, Nat.lt_of_lt_of_le hb.2.1 hbel.size, hb.2.2⟩
    · exact ⟨.inr (.inl (Nat.le_trans hr.size hb.1)), hb.2, fun o hl h => by have := (hr.own o b hl h).2; omega⟩

/-! ### Ends that are rows -/

/-- A row as a result, as data. -/
theorem res_row {t o1 u e sz by_ : Nat} {α : Type} {f : α → D} {z : α} {xs : List α} (ht : Nat.blt t 10000 = true) (h : s t = .row o1 u) (hb : s o1 = .arr u e sz by_ f z xs) : ResOne P s (.tmp t) (.list sz f z xs) := by
  intro X a w β ν hbor hr
  have hx : ev s (.tmp t) = .row o1 u := by simp only [ev, ht, cond_true]; exact h
  obtain ⟨cells, q1, q2, q2', q3, q4, q4', q5, q6⟩ := hr.atRow (s := s) (x := .tmp t) (fun _ _ => rfl) (Sees.of hx) hb
  refine ⟨a.eval (.tmp t), rfl, row_reads' q1 rfl (fun b hb' => (ok_final hbor b hb').1) (fun b hb' => ?_) q5 q4' q6⟩
  have hw := hr.own o1 b (by rw [hb]; rfl) (by rw [q2]; exact hb')
  exact ⟨hw.1.elim .inr (fun h => absurd h (hbor b)), hw.2⟩


def ResN (P : Program) (fn : Func) (s : St) (e sz by_ : Nat) {α : Type} (f : α → D) (xs : List α) : Prop :=
  ∀ (X : Cx) (a : Act) (w : World) (β : Nat → Option Nat) (ν : Nat → Value), (∀ b, ¬ X.bor b) → RelB P X s a w β ν →
    ∃ v, (results fn a.tmps).run P w = .ok v w ∧ NewRow P X.w0.heap.size X.ok0 e sz by_ f xs w v

def EndsN (P : Program) (fn : Func) (e sz by_ : Nat) {α : Type} (f : α → D) (xs : List α) (en : Exit) (s : St) : Prop := (en = .ret ∨ en = .normal) ∧ ResN P fn s e sz by_ f xs

theorem resN_row {fn : Func} {t o1 u e sz by_ : Nat} {α : Type} {f : α → D} {z : α} {xs : List α} (hf : fn.results = #[.tmp t]) (ht : Nat.blt t 10000 = true) (h : s t = .row o1 u) (hb : s o1 = .arr u e sz by_ f z xs) : ResN P fn s e sz by_ f xs := by
  intro X a w β ν hbor hr
  have hx : ev s (.tmp t) = .row o1 u := by simp only [ev, ht, cond_true]; exact h
  obtain ⟨cells, q1, q2, q2', q3, q4, q4', q5, q6⟩ := hr.atRow (s := s) (x := .tmp t) (fun _ _ => rfl) (Sees.of hx) hb
  refine ⟨a.eval (.tmp t), ?_, cells, q1, fun b hb' => ?_, q3, q4, q4', q5, fun i hi => R_mono _ (fun b hb' => ⟨⟨?_, ?_⟩, rfl⟩) (Nat.le_refl _) (q6 i hi)⟩
  · have h1 : (runRes a.tmps (.tmp t)).run P w = .ok (a.eval (.tmp t)) w := rfl
    rw [results_eq, hf]
    simp [h1]
  · exact ((hr.own o1 b (by rw [hb]; rfl) (by rw [q2]; exact hb')).1).elim id (fun h => absurd h (hbor b))
  · rcases hb'.1 with h' | h' | h'
    · exact .inl h'
    · exact .inr ⟨h', hb'.2.1⟩
    · exact absurd h' (hbor b)
  · rw [← q2]; exact hb'.2.2 o1 (by rw [hb]; rfl)

theorem resN_emp {fn : Func} {t e sz by_ : Nat} {α : Type} {f : α → D} (hf : fn.results = #[.tmp t]) (ht : Nat.blt t 10000 = true) (h : s t = .emp) (h0 : Nat.blt 0 sz = true) : ResN P fn s e sz by_ f [] := by
  intro X a w β ν hbor hr
  have hv := hr.slot t (blt_lt ht)
  rw [h] at hv
  simp only [VR, List.cons.injEq, and_true] at hv
  refine ⟨.slice none 0 0, ?_, [], World.ownsRow_nil w 0 e sz, (fun b hb => nomatch hb), blt_lt h0, by simp, by simp, by simp, fun i hi => absurd hi (Nat.not_lt_zero i)⟩
  have h1 : (runRes a.tmps (.tmp t)).run P w = .ok (.slice none 0 0) w := by rw [← hv]; rfl
  rw [results_eq, hf]
  simp [h1]

theorem resN_eq {fn : Func} {e sz by_ : Nat} {α : Type} {f : α → D} {xs ys : List α} (h : ResN P fn s e sz by_ f xs) (e' : xs = ys) : ResN P fn s e sz by_ f ys := e' ▸ h

/-- 'make([]T, n)'. -/
theorem r_make {x : Operand} {T e sz by_ d ob m : Nat} {k : IntKind} {zv : Value} {α : Type} {f : α → D} {z : α} (ho : o.op = .makeSlice T x x) (hT : IsSlice P T e) (hs : Size P e sz) (hby : Bytes P e by_) (hz : Zero P e zv) (hzs : zv.cells.size = sz) (h0 : Nat.blt 0 sz = true) (hz1 : zv.cells.toList.all (·.oneCell') = true)
    (hR : ∀ ok w, R P (f z) ok w zv.cells.toList) (hx : Sees (ev s x) (.val (.int k (m : Int)))) (hb : m * by_ ≤ 140737488355328) (hl : m ≤ 140737488355328) (hd : o.dst = some d) (hg : o.guard = none) (hob : Nat.blt 9999 ob = true) (hn : Nat.blt d n = true) (h4 : Nat.blt d 10000 = true) :
    LStep P n ops o (ob :: kx x, [d, ob]) s (upd (upd s ob (.arr (newVer (s ob)) e sz by_ f z (List.replicate m z))) d (.row ob (newVer (s ob)))) := by
  refine ⟨off_two, fun X t a w hX hk hr Q => ?_⟩
  obtain ⟨β, ν, hr⟩ := hr
  have hob' := blt_lt hob
  have hd4 := blt_lt h4
  have h0' := blt_lt h0
  have hv := hr.int (fun k hk' => hk k (List.mem_cons_of_mem _ hk')) hx
  unfold Size at hs
  unfold Bytes at hby
  unfold Zero at hz
  obtain ⟨inf, i1, i2⟩ := Option.map_eq_some_iff.1 hs
  rw [i1] at hby hz
  simp only [Option.map_some, Option.some.injEq, Option.bind_some] at hby hz
  obtain ⟨w', hrun, r1, r2⟩ := run_make_full (P := P) w w.heap.size T e inf zv sz hT i1 hz i2 k k m (by rw [hby, Nat.mul_comm]; omega) (by simp only [maxLen]; omega) (Nat.le_refl _)
  have hrun' : (execOp a.eval o).run P w = .ok (.value (.slice (some ⟨w.heap.size, 0, none⟩) m m)) w' := by
    simp [execOp, ho, hv, hrun]
  refine opWp_run (by simp [Region.wanted, hg]) hrun' ?_
  rw [ovr_two (by omega), hd]
  have hto : t ob = s ob := hk ob (by simp)
  rw [← hto]
  have hcell : ∀ j (h : j < (madeCells zv.cells (m * sz)).toList.length), (madeCells zv.cells (m * sz)).toList[j] = zv.cells.toList[j % sz]'(by simp [hzs]; exact Nat.mod_lt _ h0') := by
    intro j hj
    have hj2 : j % sz < zv.cells.size := by rw [hzs]; exact Nat.mod_lt _ h0'
    simp [madeCells, hzs, getElem!_pos zv.cells (j % sz) hj2]
  have hown : w'.ownsRow 0 e sz (.slice (some ⟨w.heap.size, 0, none⟩) m m) (List.replicate m z).length (madeCells zv.cells (m * sz)).toList := by
    rw [List.length_replicate]
    refine ⟨r1.1, ?_⟩
    rcases r1.2 with ⟨h, _⟩ | ⟨g, cap, cur, c1, c2, c3⟩
    · cases h
    · exact .inr ⟨g, cap, cur, c1, Nat.zero_le _, c3⟩
  refine hr.grown (row := none) (cells := (madeCells zv.cells (m * sz)).toList) (Kill.refl t) (by omega) (by rw [hX]; exact blt_lt hn) hd4 r2 (sem_drawn _ hrun') (fun b hb => by cases hb) (fun b hb => ?_) hown h0' (by simpa using hb) (by simpa using hl) ?_ ?_
  · simp only [Value.ownBlock, Option.some.injEq] at hb
    right; omega
  · intro c hc
    obtain ⟨j, hj, rfl⟩ := List.getElem_of_mem hc
    rw [hcell j hj]
    exact List.all_eq_true.1 hz1 _ (List.getElem_mem _)
  · intro i hi
    simp only [List.length_replicate] at hi
    rw [List.getElem_replicate]
    have : ((madeCells zv.cells (m * sz)).toList.drop (i * sz)).take sz = zv.cells.toList := by
      have hbound : (i + 1) * sz ≤ m * sz := Nat.mul_le_mul_right _ hi
      rw [Nat.add_mul, Nat.one_mul] at hbound
      apply List.ext_getElem
      · simp [size_madeCells, hzs]; omega
      · intro j h1 h2
        rw [List.getElem_take, List.getElem_drop, hcell]
        congr 1
        simp [hzs] at h2
        rw [Nat.add_comm, Nat.add_mul_mod_self_right, Nat.mod_eq_of_lt h2]
    rw [this]
    exact hR _ _

/-! ### Nil slices -/

theorem Sees.sl {x : AV} {b : Bool} {d : D} (e : x = .val (.sl b d)) : Sees x (.val d) := by
  subst e
  intro P ok w s β ν v h
  obtain ⟨u, e, h1, h2, h3, h4⟩ := h
  exact ⟨u, e, by rw [h1, h3]; rfl, h2⟩

/-- A slice compared with nil. -/
theorem p_eqlNil {x y : Operand} {T T' : TypeId} {b : Bool} {d : D} (ho : o.op = .binOp .eql T x y T') {e : TypeId} (hT : IsSlice P T e) (hy : ev s y = .emp) (hx : ev s x = .val (.sl b d)) : PStep P o (kx x ++ kx y) s (.val (.bool b)) := by
  intro X t a w β ν hk hr
  obtain ⟨v, e1, hv1, hv2, hv3, a', l, c, e2, h3⟩ := hr.sees (kl hk) (Sees.of hx)
  have hv' := hr.sees (kr hk) (Sees.of hy)
  simp only [VR, List.cons.injEq, and_true] at e1 hv'
  subst e1
  have hval : a.eval x = .slice a' l c := by
    generalize a.eval x = v at hv1 e2
    cases v <;> simp_all [Value.cells, vAgg, D.isAgg]
  refine ⟨rfl, .bool b, ?_, mk_bool _ _⟩
  subst h3
  unfold IsSlice at hT
  have he : (Op.equalIn 10000 T (.slice a' l c) (.slice none 0 0)).run P w = .ok a'.isNone w := by
    unfold Op.equalIn
    cases a' <;> simp [run_underlying' hT]
  have e3 : binOp .eql T (.slice a' l c) (.slice none 0 0) = (do pure (.bool (← Op.equal T (.slice a' l c) (.slice none 0 0)))) := rfl
  simp [execOp, ho, hval, hv', eqGuard, e3, Op.equal, Op.maxDepth, he]

end
end Go.Um
