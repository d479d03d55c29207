/- A slice of a row from an element on: made, measured, indexed, cleared; 'x[:len(x):len(x)]'. No condition. -/
import Derived.Test.YtfjafkocejoigaaGreatBB
import Derived.Test.YtfjafkocejoigaaGreatBC
import Derived.Test.YtfjafkocejoigaaGreatPB
namespace Go.Um
open Go Go.RowKit

section
variable {P : Program} {n : Nat} {ops : Array Oper} {s : St} {o : Oper}
theorem p_subS {x lo : Operand} {T e o1 u sz by_ l : Nat} {α : Type} {f : α → D} {z : α} {xs : List α} (ho : o.op = .slice T x (some lo) none none) (hT : IsSlice P T e) (hs : Size P e sz) (hx : Sees (ev s x) (.row o1 u)) (hb : s o1 = .arr u e sz by_ f z xs)
    (hl : Sees (ev s lo) (.val (.int .i64 (l : Int)))) (h1 : l < xs.length) : PStep P o ((o1 :: kx x) ++ kx lo) s (.sub o1 u sz l) := by
  intro X t a w β ν hk hr
  obtain ⟨cells, q1, q2, q2', q3, _⟩ := hr.atRow (kl hk) hx hb
  rcases q1.2 with ⟨_, h2⟩ | ⟨g, cap, cur, hv, _, hg, hnc, hcm, hcs, htake⟩
  · omega
  · refine ⟨rfl, .slice (some ⟨g, l * sz, none⟩) (xs.length - l) (cap - l), ?_, ?_⟩
    · have hT' : P.underlying T = some (.slice e) := hT
      have hii := hr.int (kr hk) hl
      have hne : ¬ cap = l := by omega
      have hle : l ≤ xs.length := by omega
      simp [execOp, ho, Instr.sliceAt, Instr.slice, Instr.sliceBounds, Instr.sliceBound, asIntOf, run_underlying' hT', run_sizeOf hs, hv, hii, hne, hle, Addr.add_none]
    · have hto : t o1 = .arr u e sz by_ f z xs := by rw [hk o1 (by simp), hb]
      exact ⟨_, u, rfl, by rw [hto]; rfl, Nat.le_refl _, fun _ _ => ⟨g, xs.length, cap, by rw [q2', hv], rfl⟩⟩

theorem RelB.atSub {X : Cx} {t : St} {a : Act} {w : World} {β : Nat → Option Nat} {ν : Nat → Value} (hr : RelB P X t a w β ν) {x : Operand} {o1 u e sz by_ l : Nat} {α : Type} {f : α → D} {z : α} {xs : List α} (hk : ∀ k ∈ o1 :: kx x, t k = s k) (hx : Sees (ev s x) (.sub o1 u sz l)) (hb : s o1 = .arr u e sz by_ f z xs) :
    ∃ g cap cur cells, ν o1 = .slice (some ⟨g, 0, none⟩) xs.length cap ∧ β o1 = some g ∧ a.eval x = .slice (some ⟨g, l * sz, none⟩) (xs.length - l) (cap - l) ∧ w.heap[g]? = some (.cells cur e (0, 0)) ∧ w.ownsRow 0 e sz (ν o1) xs.length cells ∧ cur.toList.take (xs.length * sz) = cells ∧ cur.size = cap * sz ∧ xs.length ≤ cap ∧ cap ≤ maxLen ∧ 0 < sz ∧
      xs.length * by_ ≤ 140737488355328 ∧ xs.length ≤ 140737488355328 ∧ (∀ c ∈ cells, c.oneCell' = true) ∧ ∀ i (h : i < xs.length), R P (f xs[i]) (okAt X t β w) w ((cells.drop (i * sz)).take sz) := by
  obtain ⟨v, k, e1, h1, h2, h3⟩ := hr.sees (fun k hk' => hk k (by simp [hk'])) hx
  simp only [List.cons.injEq, and_true] at e1
  have hob : t o1 = .arr u e sz by_ f z xs := by rw [hk o1 (by simp), hb]
  rw [hob] at h1
  simp only [ver, Option.some.injEq] at h1
  obtain ⟨g, l', c', h4, h5⟩ := h3 h1 (by rw [hob]; rfl)
  have ho := hr.obj o1
  rw [hob] at ho
  obtain ⟨cells, g1, g2, g3, g4, g4', g5, g6⟩ := ho
  rcases g1.2 with ⟨h6, _⟩ | ⟨g', cap, cur, hv, _, hg, hnc, hcm, hcs, htake⟩
  · rw [h4] at h6; cases h6
  · rw [hv] at h4
    simp only [Value.slice.injEq, Option.some.injEq, Addr.mk.injEq, and_true] at h4
    obtain ⟨rfl, rfl, rfl⟩ := h4
    exact ⟨g', cap, cur, cells, hv, by rw [g2, hv]; rfl, by rw [e1, h5], hg, g1, htake, hcs, hnc, hcm, g3, g4, g4', g5, g6⟩
theorem r_clearS {x : Operand} {T o1 u e by_ l : Nat} {zv : Value} {α : Type} {f : α → D} {z : α} {xs : List α} (ho : o.op = .call { callee := .builtin .clear, args := #[x], argTypes := #[T] }) (hT : IsSlice P T e) (hz : Zero P e zv) (hz1 : zv.oneCell' = true) (hzc : zv.cells = #[zv]) (hR : ∀ ok w, R P (f z) ok w [zv])
    (hd : o.dst = none) (hg : o.guard = none) (hob : Nat.blt 9999 o1 = true) (hx : Sees (ev s x) (.sub o1 u 1 l)) (hb : s o1 = .arr u e 1 by_ f z xs) (hl : l < xs.length) :
    LStep P n ops o (o1 :: kx x, [o1]) s (upd s o1 (.arr u e 1 by_ f z (xs.take l ++ List.replicate (xs.length - l) z))) := by
  refine ⟨upd_off, fun X t a w hX hk hr Q => ?_⟩
  obtain ⟨β, ν, hr⟩ := hr
  obtain ⟨g, cap, cur, cells, q1, q2, q3, q4, q5, q6, q7, q8, q9, q10, q11, q12, q13, q14⟩ := hr.atSub hk hx hb
  have hzs : (Builtin.zeroCells zv.cells (xs.length - l)).toList = List.replicate (xs.length - l) zv := by
    rw [hzc]
    simp [Builtin.zeroCells]
    apply List.ext_getElem
    · simp
    · intro i h1 h2
      simp [Nat.mod_one]
  simp only [Nat.mul_one] at q3 q6 q7
  have hrun : (execOp a.eval o).run P w = .ok (.value (.tuple #[])) (w.setRow g (cur.toList.take l ++ List.replicate (xs.length - l) zv ++ cur.toList.drop (l + (xs.length - l))).toArray) := by
    have hst := run_storeCells_at (P := P) g l e (List.replicate (xs.length - l) zv) 0 cur w q4 (by simp; omega) (fun v hv => by rw [List.eq_of_mem_replicate hv]; exact hz1)
    simp only [Nat.add_zero, List.length_replicate] at hst
    have hT' : P.underlying T = some (.slice e) := hT
    have hz' : ∀ w, (zeroValue e).run P w = .ok zv w := fun w => run_zero hz w
    obtain ⟨q, hq⟩ : ∃ q, xs.length - l = q + 1 := ⟨xs.length - l - 1, by omega⟩
    rw [hq] at hst hzs q3 ⊢
    simp [execOp, ho, resolve, invoke, builtin, Builtin.clear_, run_underlying' hT', q3, hz', hzs, hst]
  refine opWp_run (by simp [Region.wanted, hg]) hrun ?_
  rw [ovr_one, hd]
  show Rel P X _ a _
  have hob' := blt_lt hob
  have hlc : cells.length = xs.length := by have := q5.1; omega
  have hcells : (cur.toList.take l ++ List.replicate (xs.length - l) zv ++ cur.toList.drop (l + (xs.length - l))).toArray.toList.take (xs.length * 1) = cells.take l ++ List.replicate (xs.length - l) zv := by
    rw [Nat.mul_one, ← q6, List.take_take, Nat.min_eq_left (by omega)]
    show List.take xs.length ((_ ++ _) ++ _) = _
    rw [List.take_append_of_le_length (by simp; omega)]
    refine List.take_of_length_le (by simp; omega)
  refine ⟨β, ν, hr.setRow (by omega) (by rw [hk o1 (by simp), hb]) q1 q2 q4 (by simp; omega) q8 q9 q10 q11 q12 (by simp; omega) hcells ?_ ?_⟩
  · intro c hc
    rcases List.mem_append.1 hc with h | h
    · exact q13 c (List.mem_of_mem_take h)
    · rw [List.eq_of_mem_replicate h]; exact hz1
  · intro i hi
    have hi' : i < xs.length := by simp at hi; omega
    simp only [Nat.mul_one]
    by_cases h : i < l
    · have e1 : (xs.take l ++ List.replicate (xs.length - l) z)[i] = xs[i] := by
        rw [List.getElem_append_left (by simp; omega)]
        simp
      have e2 : ((cells.take l ++ List.replicate (xs.length - l) zv).drop i).take 1 = (cells.drop i).take 1 := by
        rw [List.drop_append_of_le_length (by simp; omega), List.take_append_of_le_length (by simp; omega), List.drop_take, List.take_take, Nat.min_eq_left (by omega)]
      rw [e1, e2]
      have := q14 i hi'
      simpa using this
    · have e1 : (xs.take l ++ List.replicate (xs.length - l) z)[i] = z := by
        rw [List.getElem_append_right (by simp; omega)]
        simp
      have e2 : ((cells.take l ++ List.replicate (xs.length - l) zv).drop i).take 1 = [zv] := by
        rw [List.drop_append, List.drop_of_length_le (by simp; omega), List.nil_append, List.drop_replicate, List.take_replicate]
        have : min 1 (xs.length - l - (i - (cells.take l).length)) = 1 := by simp; omega
        rw [this]
        rfl
      rw [e1, e2]
      exact hR _ _

end

end Go.Um

/- A row from an element on that goes on as a row of its own; a row cut short; a clipped slice that grows. No condition. -/


namespace Go.Um
open Go Go.RowKit

section
variable {P : Program} {n : Nat} {ops : Array Oper} {s : St} {o : Oper}
theorem le_tl {o1 u e sz by_ : Nat} {α : Type} {f : α → D} {z : α} {xs : List α} (ho4 : Nat.blt 9999 o1 = true) (hb : s o1 = .arr u e sz by_ f z xs) (hx : xs ≠ []) : Le P s (upd s o1 (.tl u e sz by_ f z xs)) := by
  rintro X a w ⟨β, ν, hr⟩
  have ho4' := blt_lt ho4
  have hv : ∀ k, live (upd s o1 (.tl u e sz by_ f z xs) k) = live (s k) ∧ ver (upd s o1 (.tl u e sz by_ f z xs) k) = ver (s k) := by
    intro k
    by_cases e1 : k = o1
    · subst e1; rw [upd_same, hb]; exact ⟨rfl, rfl⟩
    · rw [upd_ne _ _ e1]; exact ⟨rfl, rfl⟩
  have hgo : Goes s (upd s o1 (.tl u e sz by_ f z xs)) β β ν ν := fun k m hm => ⟨m, by rw [(hv k).2]; exact hm, Nat.le_refl _, fun _ hl => ⟨by rw [← (hv k).1]; exact hl, rfl, rfl⟩⟩
  have hok : ∀ b, okAt X s β w b → okAt X (upd s o1 (.tl u e sz by_ f z xs)) β w b ∧ w.heap[b]? = w.heap[b]? := fun b hb' => ⟨⟨hb'.1, hb'.2.1, fun k hl => hb'.2.2 k (by rw [← (hv k).1]; exact hl)⟩, rfl⟩
  refine ⟨β, ν, hr.move rfl rfl ⟨rfl, Nat.le_refl _⟩ (Nat.le_refl _) (fun _ _ _ => rfl) hok hgo (fun k b hl h => .inl ⟨by rw [← (hv k).1]; exact hl, h⟩) (fun k k' b hl hl' => hr.inj k k' b (by rw [← (hv k).1]; exact hl) (by rw [← (hv k').1]; exact hl')) ?_ ?_ ?_ rfl rfl ?_⟩
  · intro k hl
    by_cases e1 : k = o1
    · subst e1
      right
      rw [upd_same]
      have ho := hr.obj k
      rw [hb] at ho
      obtain ⟨cells, g1, g2, g3, g4, g4', g5, g6⟩ := ho
      rcases g1.2 with ⟨_, h0⟩ | ⟨g, cap, cur, hvv, hbg, hg, hnc, hcm, hcs, htake⟩
      · exact absurd (List.eq_nil_of_length_eq_zero h0) hx
      · refine ⟨g, 0, cap, 0, cells, ?_, ⟨hvv, fun _ => by simp⟩, by rw [g2, hvv]; rfl, g3, g4, g4', g5, fun i hi => ?_⟩
        · rw [Nat.zero_add, Nat.zero_add, ← hvv]; exact g1
        · rw [Nat.zero_add]
          exact R_mono _ hok (Nat.le_refl _) (g6 i hi)
    · left
      exact ⟨upd_ne _ _ e1, rfl, rfl, fun _ _ => rfl⟩
  · intro t ht
    left
    exact ⟨upd_ne _ _ (by omega), rfl⟩
  · intro t ht
    rw [(hv t).2]
    exact hr.keys t ht
  · intro h
    left
    refine upd_ne _ _ (fun e1 => ?_)
    subst e1
    rw [upd_same] at h
    cases h

theorem RelB.atTl {X : Cx} {t : St} {a : Act} {w : World} {β : Nat → Option Nat} {ν : Nat → Value} (hr : RelB P X t a w β ν) {x : Operand} {o1 u e sz by_ : Nat} {α : Type} {f : α → D} {z : α} {xs : List α} (hk : ∀ k ∈ o1 :: kx x, t k = s k) (hx : Sees (ev s x) (.row o1 u)) (hb : s o1 = .tl u e sz by_ f z xs) :
    ∃ g k c off cells, w.ownsRow 0 e sz (.slice (some ⟨g, 0, none⟩) (k + xs.length) (k + c)) (k + xs.length) cells ∧ (a.eval x = .slice (some ⟨g, off, none⟩) xs.length c ∧ ν o1 = .slice (some ⟨g, off, none⟩) xs.length c ∧ (c ≠ 0 → off = k * sz)) ∧ β o1 = some g ∧ 0 < sz ∧ xs.length * by_ ≤ 140737488355328 ∧ xs.length ≤ 140737488355328 ∧ (∀ c ∈ cells, c.oneCell' = true) ∧
      ∀ i (h : i < xs.length), R P (f xs[i]) (okAt X t β w) w ((cells.drop ((k + i) * sz)).take sz) := by
  obtain ⟨v, k, e1, h1, h2, h3⟩ := hr.sees (fun k hk' => hk k (by simp [hk'])) hx
  simp only [List.cons.injEq, and_true] at e1
  have hob : t o1 = .tl u e sz by_ f z xs := by rw [hk o1 (by simp), hb]
  rw [hob] at h1
  simp only [ver, Option.some.injEq] at h1
  have hv := h3 h1 (by rw [hob]; rfl)
  have ho := hr.obj o1
  rw [hob] at ho
  obtain ⟨g, k', c, off, cells, g1, g2, g3, g4⟩ := ho
  exact ⟨g, k', c, off, cells, g1, ⟨by rw [e1, hv]; exact g2.1, g2⟩, g3, g4⟩

theorem p_lenT {x : Operand} {T e' o1 u e sz by_ : Nat} {α : Type} {f : α → D} {z : α} {xs : List α} (ho : o.op = .call { callee := .builtin .len, args := #[x], argTypes := #[T] }) (hT : IsSlice P T e') (hx : Sees (ev s x) (.row o1 u)) (hb : s o1 = .tl u e sz by_ f z xs) :
    PStep P o (o1 :: kx x) s (.val (.int .i64 (xs.length : Int))) := by
  intro X t a w β ν hk hr
  obtain ⟨g, k, c, off, cells, q1, q2, _⟩ := hr.atTl hk hx hb
  refine ⟨rfl, .int .i64 (xs.length : Int), ?_, mk_int _ _ _⟩
  have hT' : P.underlying T = some (.slice e') := hT
  simp [execOp, ho, resolve, invoke, builtin, Builtin.len_, run_underlying' hT', q2.1, goInt]

theorem p_indexT {x i : Operand} {T o1 u e sz by_ m : Nat} {k : IntKind} {α : Type} {f : α → D} {z : α} {xs : List α} (ho : o.op = .indexAddr T x i) (hT : IsSlice P T e) (hs : Size P e sz) (hx : Sees (ev s x) (.row o1 u)) (hb : s o1 = .tl u e sz by_ f z xs)
    (hi : Sees (ev s i) (.val (.int k (m : Int)))) (h1 : m < xs.length) : PStep P o ((o1 :: kx x) ++ kx i) s (.etl o1 u sz m) := by
  intro X t a w β ν hk hr
  obtain ⟨g, k', c, off, cells, q1, q2, q3, _⟩ := hr.atTl (kl hk) hx hb
  refine ⟨rfl, .pointer (some ⟨g, off + m * sz, none⟩), ?_, ?_⟩
  · have hT' : P.underlying T = some (.slice e) := hT
    have hii := hr.int (kr hk) hi
    simp [execOp, ho, Instr.indexAt, hii, q2.1, asIntOf, run_underlying' hT', run_sizeOf hs, h1, Addr.add_none, Addr.add]
    try (intro h; rw [h]; simp)
  · have hto : t o1 = .tl u e sz by_ f z xs := by rw [hk o1 (by simp), hb]
    exact ⟨_, u, rfl, by rw [hto]; rfl, Nat.le_refl _, fun _ _ => ⟨g, off, xs.length, c, q2.2.1, rfl⟩⟩

theorem p_loadT {x : Operand} {T o1 u e by_ m : Nat} {α : Type} {f : α → D} {z : α} {xs : List α} (ho : o.op = .load T x) (hT : IsAgg P T false) (hx : Sees (ev s x) (.etl o1 u 1 m)) (hb : s o1 = .tl u e 1 by_ f z xs) (hm : m < xs.length) (hd : ∀ x, (f x).one = true) : PStep P o (o1 :: kx x) s (.val (f (xs.getD m z))) := by
  intro X t a w β ν hk hr
  obtain ⟨v, k, e1, h1, h2, h3⟩ := hr.sees (fun k hk' => hk k (by simp [hk'])) hx
  simp only [List.cons.injEq, and_true] at e1
  have hob : t o1 = .tl u e 1 by_ f z xs := by rw [hk o1 (by simp), hb]
  rw [hob] at h1
  simp only [ver, Option.some.injEq] at h1
  obtain ⟨b, off', l, c', hv1, hv2⟩ := h3 h1 (by rw [hob]; rfl)
  have hob2 := hr.obj o1
  rw [hob] at hob2
  obtain ⟨g, k', c, off, cells, g1, ⟨g2, g2'⟩, g3, g4, g5, g6, g7, g8⟩ := hob2
  rw [g2] at hv1
  simp only [Value.slice.injEq, Option.some.injEq, Addr.mk.injEq, and_true] at hv1
  obtain ⟨⟨rfl, rfl⟩, rfl, rfl⟩ := hv1
  have hkc : xs.length ≤ c := by
    rcases g1.2 with ⟨h6, _⟩ | ⟨g', cap, cur, hv, _, hg, hnc, _⟩
    · cases h6
    · simp only [Value.slice.injEq] at hv
      omega
  have hoff := g2' (by omega)
  have hR := g8 m hm
  obtain ⟨v', hv', hvr⟩ := R_one (hd _) hR
  have hget : xs.getD m z = xs[m] := by simp [List.getD, hm]
  refine ⟨rfl, v', ?_, ⟨v', rfl, by rw [hget]; exact hvr⟩⟩
  have hc : cells[k' + m]? = some v' := by
    have : ((cells.drop ((k' + m) * 1)).take 1)[0]? = some v' := by rw [hv']; rfl
    rw [List.getElem?_take, if_pos (by omega), List.getElem?_drop] at this
    simpa using this
  have hcell := g1.cells (g := g) rfl (k' + m) v' hc
  rw [Addr.add_none rfl] at hcell
  simp only [Nat.zero_add] at hcell
  have hax : a.eval x = .pointer (some ⟨g, k' + m, none⟩) := by rw [e1, hv2, hoff]; simp
  simp [execOp, ho, Instr.loadAt, hax, Instr.sureAddr, loadVar, run_isAgg hT, hcell]
theorem RelB.newTl {X : Cx} {t t1 : St} {a : Act} {w w' : World} {β : Nat → Option Nat} {ν : Nat → Value} (hr : RelB P X t a w β ν) (hkill : Kill t t1) {ob d e sz by_ g k c off : Nat} {α : Type} {f : α → D} {z : α} {xs : List α} {cells : List Value}
    (h4 : 10000 ≤ ob) (hdn : d < X.n) (hd4 : d < 10000) (hos : w'.os = w.os) (htape : w'.tape = w.tape) (hout : w'.output = w.output ∧ w.drawn ≤ w'.drawn) (hsize : w.heap.size ≤ w'.heap.size)
    (hblk : ∀ b, b < w.heap.size → w'.heap[b]? = w.heap[b]? ∨ ∃ o, live (t o) = true ∧ live (t1 o) = false ∧ β o = some b)
    (hbt : (w.heap.size ≤ g ∧ g < w'.heap.size) ∨ ∃ o, live (t o) = true ∧ live (t1 o) = false ∧ β o = some g)
    (hown : w'.ownsRow 0 e sz (.slice (some ⟨g, 0, none⟩) (k + xs.length) (k + c)) (k + xs.length) cells) (hoff : c ≠ 0 → off = k * sz) (h0 : 0 < sz) (hb : xs.length * by_ ≤ 140737488355328) (hl : xs.length ≤ 140737488355328) (h1 : ∀ u ∈ cells, u.oneCell' = true)
    (hR : ∀ i (h : i < xs.length), R P (f xs[i]) (okAt X t β w) w ((cells.drop ((k + i) * sz)).take sz)) :
    Rel P X (upd (upd t1 ob (.tl (newVer (t1 ob)) e sz by_ f z xs)) d (.row ob (newVer (t1 ob)))) (a.put (some d) (.slice (some ⟨g, off, none⟩) xs.length c)) w' := by
  refine ⟨updF β ob (some g), updF ν ob (.slice (some ⟨g, off, none⟩) xs.length c), hr.newObj hkill h4 hdn hd4 hos htape hout hsize hblk ?_ rfl rfl ?_⟩
  · intro b hb'
    cases hb'
    exact hbt
  · intro hok hgo
    refine ⟨⟨g, k, c, off, cells, hown, ⟨by rw [updF_same], hoff⟩, by rw [updF_same], h0, hb, hl, h1, fun i hi => R_mono _ hok hsize (hR i hi)⟩, ?_⟩
    refine ⟨_, newVer (t1 ob), rfl, ?_, Nat.le_refl _, fun _ _ => (updF_same ..).symm⟩
    rw [upd_ne _ _ (by omega), upd_same]
    rfl
theorem r_tail {x lo : Operand} {T e o1 u sz by_ l d : Nat} {α : Type} {f : α → D} {z : α} {xs : List α} (ho : o.op = .slice T x (some lo) none none) (hT : IsSlice P T e) (hs : Size P e sz) (hx : Sees (ev s x) (.row o1 u)) (hb : s o1 = .tl u e sz by_ f z xs)
    (hl : Sees (ev s lo) (.val (.int .i64 (l : Int)))) (h1 : l ≤ xs.length) (hd : o.dst = some d) (hg : o.guard = none) (hob : Nat.blt 9999 o1 = true) (hn : Nat.blt d n = true) (h4 : Nat.blt d 10000 = true) :
    LStep P n ops o ((o1 :: kx x) ++ kx lo, [d, o1]) s (upd (upd s o1 (.tl (u + 1) e sz by_ f z (xs.drop l))) d (.row o1 (u + 1))) := by
  refine ⟨off_two, fun X t a w hX hk hr Q => ?_⟩
  obtain ⟨β, ν, hr⟩ := hr
  have hob' := blt_lt hob
  have hd4 := blt_lt h4
  obtain ⟨g, k, c, off, cells, q1, ⟨q2, q2', q2''⟩, q3, q4, q5, q6, q7, q8⟩ := hr.atTl (kl hk) hx hb
  have hto : t o1 = .tl u e sz by_ f z xs := by rw [hk o1 (by simp), hb]
  have hkc : xs.length ≤ c ∧ k + c ≤ maxLen := by
    rcases q1.2 with ⟨h6, _⟩ | ⟨g', cap, cur, hv, _, hg', hnc, hcm, _⟩
    · cases h6
    · simp only [Value.slice.injEq] at hv
      omega
  have hT' : P.underlying T = some (.slice e) := hT
  have hii := hr.int (kr hk) hl
  have hrun : (execOp a.eval o).run P w = .ok (.value (.slice (some ⟨g, if c = l then off else off + l * sz, none⟩) (xs.length - l) (c - l))) w := by
    by_cases e1 : c = l
    · have e2 : xs.length = l := by omega
      simp [execOp, ho, Instr.sliceAt, Instr.slice, Instr.sliceBounds, Instr.sliceBound, asIntOf, run_underlying' hT', run_sizeOf hs, q2, hii, e1, e2, Addr.add_none]
    · have hle : l ≤ xs.length := h1
      simp [execOp, ho, Instr.sliceAt, Instr.slice, Instr.sliceBounds, Instr.sliceBound, asIntOf, run_underlying' hT', run_sizeOf hs, q2, hii, e1, hle, Addr.add_none]
  refine opWp_run (by simp [Region.wanted, hg]) hrun ?_
  rw [ovr_two (by omega), hd]
  have hlen : (xs.drop l).length = xs.length - l := List.length_drop
  have hk1 : Kill t (upd t o1 (.dead u)) := Kill.one (by rw [hto]; rfl)
  have hfin := hr.newTl (w' := w) (k := k + l) (c := c - l) (off := if c = l then off else off + l * sz) (by_ := by_) (z := z) (f := f) (xs := xs.drop l) (cells := cells) (e := e) (sz := sz) (g := g) (d := d) (ob := o1) hk1 (by omega) (by rw [hX]; exact blt_lt hn) hd4 rfl rfl ⟨rfl, Nat.le_refl _⟩ (Nat.le_refl _) (fun b _ => .inl rfl)
    (.inr ⟨o1, by rw [hto]; rfl, by rw [upd_same]; rfl, q3⟩) (by rw [hlen, show k + l + (xs.length - l) = k + xs.length by omega, show k + l + (c - l) = k + c by omega]; exact q1) (fun hc => by rw [if_neg (by omega), q2'' (by omega), Nat.add_mul]) q4 (by rw [hlen]; exact Nat.le_trans (Nat.mul_le_mul_right _ (Nat.sub_le _ _)) q5) (by omega) q7 (fun i hi => by
      have := q8 (l + i) (by omega)
      rw [List.getElem_drop, show k + l + i = k + (l + i) by omega]
      exact this)
  rw [upd_same, hlen] at hfin
  have hup : upd (upd t o1 (.dead u)) o1 (.tl (newVer (AV.dead u)) e sz by_ f z (xs.drop l)) = upd t o1 (.tl (u + 1) e sz by_ f z (xs.drop l)) := by
    funext q
    by_cases e1 : q = o1
    · subst e1; rw [upd_same, upd_same]; rfl
    · rw [upd_ne _ _ e1, upd_ne _ _ e1, upd_ne _ _ e1]
  rw [hup] at hfin
  exact hfin

theorem run_append_off {w : World} {T ty e : TypeId} {i : TypeInfo} (ht : P.underlying T = some (.slice e)) (hi : P.info? e = some i)
    (g off sLen sCap : Nat) (cur : Array Value) (hg : w.heap[g]? = some (.cells cur e (0, 0)))
    (a : Addr) (m c : Nat) (news : List Value) (hl : news.length = m * i.size) (hnews : ∀ j u, news[j]? = some u → w.cell? (a.add j) = some u) (h1 : ∀ u ∈ news, u.oneCell' = true)
    (hroom : sLen + m ≤ sCap) (hfit : off + sLen * i.size + news.length ≤ cur.size) :
    (Builtin.append_ #[T, T] ty #[.slice (some ⟨g, off, none⟩) sLen sCap, .slice (some a) m c]).run P w =
      .ok (.slice (some ⟨g, off, none⟩) (sLen + m) sCap) (w.setRow g (cur.toList.take (off + sLen * i.size) ++ news ++ cur.toList.drop (off + sLen * i.size + news.length)).toArray) := by
  have hf := run_firstCells_some (P := P) w i.size m a m c news hl hnews
  have hst := run_storeCells_at (P := P) g (off + sLen * i.size) e news 0 cur w hg (by simpa using hfit) h1
  simp only [Nat.add_zero] at hst
  simp [Builtin.append_, run_underlying' ht, sizeOf, typeInfo, hi, Builtin.lenOf, hroom, hf, Addr.add_none, hst]
theorem r_appendT {x y : Operand} {T e sz by_ d o1 u : Nat} {zv : Value} {α : Type} {f : α → D} {z z' : α} {xs ys : List α} (ho : o.op = .call { callee := .builtin .append, args := #[x, y], argTypes := #[T, T] }) (hT : IsSlice P T e) (hs : Size P e sz) (hby : Bytes P e by_) (hz : Zero P e zv) (hzs : zv.cells.size = sz)
    (h0 : Nat.blt 0 sz = true) (hx : Sees (ev s x) (.row o1 u)) (hb1 : s o1 = .tl u e sz by_ f z xs) (hy : Sees (ev s y) (.val (.list sz f z' ys))) (hb : (xs.length + ys.length) * by_ ≤ 140737488355328) (hl : xs.length + ys.length ≤ 140737488355328) (hne : ys ≠ [])
    (hd : o.dst = some d) (hg : o.guard = none) (hob : Nat.blt 9999 o1 = true) (hn : Nat.blt d n = true) (h4 : Nat.blt d 10000 = true) :
    LStep P n ops o ((o1 :: kx x) ++ kx y, [d, o1]) s (upd (upd s o1 (.tl (u + 1) e sz by_ f z (xs ++ ys))) d (.row o1 (u + 1))) := by
  refine ⟨off_two, fun X t a w hX hk hr Q => ?_⟩
  obtain ⟨β, ν, hr⟩ := hr
  have hob' := blt_lt hob
  have hd4 := blt_lt h4
  have h0' := blt_lt h0
  obtain ⟨g, k, c, off, cells, q1, ⟨q2, q2', q2''⟩, q3, q4, q5, q6, q7, q8⟩ := hr.atTl (kl hk) hx hb1
  have hto : t o1 = .tl u e sz by_ f z xs := by rw [hk o1 (by simp), hb1]
  have hk1 : Kill t (upd t o1 (.dead u)) := Kill.one (by rw [hto]; rfl)
  have hup : upd (upd t o1 (.dead u)) o1 (.tl (newVer (AV.dead u)) e sz by_ f z (xs ++ ys)) = upd t o1 (.tl (u + 1) e sz by_ f z (xs ++ ys)) := by
    funext q
    by_cases e1 : q = o1
    · subst e1; rw [upd_same, upd_same]; rfl
    · rw [upd_ne _ _ e1, upd_ne _ _ e1, upd_ne _ _ e1]
  have hy0 : ys.length ≠ 0 := fun h => hne (List.eq_nil_of_length_eq_zero h)
  obtain ⟨ad, cap2, news, hv2, hl2, hn2, hc2, h12, hR2⟩ := hr.src h0' (kr hk) hy
  cases ad with
  | none => exact absurd (hn2 rfl) hne
  | some ad =>
    have hT' : P.underlying T = some (.slice e) := hT
    obtain ⟨i, hi, hiz⟩ := Option.bind_eq_some_iff.1 hz
    have his : i.size = sz := by unfold Size at hs; rw [hi] at hs; simpa using hs
    have hib : i.bytes = by_ := by unfold Bytes at hby; rw [hi] at hby; simpa using hby
    have hR : ∀ (cx : List Value), cx.length = xs.length * sz → (∀ i (h : i < xs.length), R P (f xs[i]) (okAt X t β w) w ((cx.drop (i * sz)).take sz)) → ∀ i (h : i < (xs ++ ys).length), R P (f (xs ++ ys)[i]) (okAt X t β w) w (((cx ++ news).drop (i * sz)).take sz) := fun cx h1 h2 => rows_append h1 h2 hR2
    have hcl := q1.1
    have htl : (cells.drop (k * sz)).length = xs.length * sz := by rw [List.length_drop, hcl, Nat.add_mul]; omega
    have hRt : ∀ i (h : i < xs.length), R P (f xs[i]) (okAt X t β w) w (((cells.drop (k * sz)).drop (i * sz)).take sz) := fun i hi => by
      rw [List.drop_drop, ← Nat.add_mul]
      exact q8 i hi
    rcases q1.2 with ⟨h6, _⟩ | ⟨g', cp, cur, hvv, hbg, hgc, hnc, hcm, hcs, htake⟩
    · cases h6
    · simp only [Value.slice.injEq, Option.some.injEq, Addr.mk.injEq, and_true, true_and] at hvv
      obtain ⟨rfl, rfl⟩ := hvv
      by_cases hroom : xs.length + ys.length ≤ c
      · have hoff := q2'' (by omega)
        subst hoff
        have hpos : k * sz + xs.length * sz = (k + xs.length) * sz := by rw [Nat.add_mul]
        have hfit : k * sz + xs.length * i.size + news.length ≤ cur.size := by
          rw [his, hl2, hcs, hpos, ← Nat.add_mul]
          exact Nat.mul_le_mul_right _ (by omega)
        have hrun1 := run_append_off (P := P) (w := w) (ty := o.type) hT' hi g (k * sz) xs.length c cur hgc ad ys.length cap2 news (by rw [his]; exact hl2) (hc2 ad rfl) h12 hroom hfit
        have hw : (cur.toList.take (k * sz + xs.length * i.size) ++ news ++ cur.toList.drop (k * sz + xs.length * i.size + news.length)).toArray.size = cur.size := by
          simp only [List.size_toArray, List.length_append, List.length_take, List.length_drop, Array.length_toList]
          omega
        have hlen : (cells ++ news).length = (k + (xs ++ ys).length) * sz := by
          rw [List.length_append, List.length_append, hcl, hl2, ← Nat.add_mul]
          congr 1
          omega
        have hown : (w.setRow g (cur.toList.take (k * sz + xs.length * i.size) ++ news ++ cur.toList.drop (k * sz + xs.length * i.size + news.length)).toArray).ownsRow 0 e sz (.slice (some ⟨g, 0, none⟩) (k + (xs ++ ys).length) (k + c)) (k + (xs ++ ys).length) (cells ++ news) := by
          refine ⟨hlen, .inr ⟨g, k + c, _, rfl, Nat.zero_le _, setRow_heap w g cur _ e _ hgc, by rw [List.length_append]; omega, hcm, by rw [hw]; exact hcs, ?_⟩⟩
          rw [his, hpos, ← hlen]
          have e2 : cells = cur.toList.take ((k + xs.length) * sz) := htake.symm
          rw [e2]
          simp only [List.append_assoc]
          rw [← List.append_assoc]
          exact List.take_left
        refine opWp_run (by simp [Region.wanted, hg]) (run_append_op ho (by rw [q2, hv2]; exact hrun1)) ?_
        rw [ovr_two (by omega), hd]
        have hfin := hr.newTl (w' := w.setRow g (cur.toList.take (k * sz + xs.length * i.size) ++ news ++ cur.toList.drop (k * sz + xs.length * i.size + news.length)).toArray) (k := k) (c := c) (off := k * sz) (by_ := by_) (z := z) (f := f) (xs := xs ++ ys) (cells := cells ++ news) (e := e) (sz := sz) (g := g) (d := d) (ob := o1) hk1 (by omega) (by rw [hX]; exact blt_lt hn) hd4 rfl rfl ⟨rfl, Nat.le_refl _⟩ (by simp) (fun b hb' => by
            by_cases e1 : b = g
            · right; exact ⟨o1, by rw [hto]; rfl, by rw [upd_same]; rfl, by rw [e1]; exact q3⟩
            · left; exact setRow_other w g b _ e1)
          (.inr ⟨o1, by rw [hto]; rfl, by rw [upd_same]; rfl, q3⟩) hown (fun _ => rfl) h0' (by rw [List.length_append]; exact hb) (by rw [List.length_append]; exact hl) (fun v hv => by
            rcases List.mem_append.1 hv with h | h
            · exact q7 v h
            · exact h12 v h) (fun i' hi' => by
            have := hR (cells.drop (k * sz)) htl hRt i' hi'
            have e3 : (cells ++ news).drop ((k + i') * sz) = (cells.drop (k * sz) ++ news).drop (i' * sz) := by
              rw [Nat.add_mul, ← List.drop_drop, List.drop_append_of_le_length (by rw [hcl, Nat.add_mul]; omega)]
            rw [e3]
            exact this)
        rw [upd_same, hup] at hfin
        rw [List.length_append] at hfin
        exact hfin
      · have holds : ∀ j u, (cells.drop (k * sz))[j]? = some u → w.cell? ((⟨g, off, none⟩ : Addr).add j) = some u := by
          intro j u' hj
          have hjl := (List.getElem?_eq_some_iff.1 hj).1
          rw [htl] at hjl
          have hx0 : xs.length ≠ 0 := fun h => by rw [h, Nat.zero_mul] at hjl; omega
          have hoff := q2'' (by omega)
          rw [List.getElem?_drop] at hj
          have := q1.cells (g := g) rfl (k * sz + j) u' hj
          rw [Addr.add_none rfl] at this ⊢
          rw [hoff]
          simpa using this
        obtain ⟨v', w', g1, g2, g3⟩ := run_append_arg_grows (P := P) w T o.type e i zv sz by_ hT' hi hiz his hib hzs h0' ⟨g, off, none⟩ xs.length c (cells.drop (k * sz)) htl holds ad ys.length cap2 news hl2 (hc2 ad rfl) (by omega) (by simp only [maxLen]; omega) hb
        rcases g2.2 with ⟨_, h6⟩ | ⟨g', cp, cur', rfl, hbg', hgc', hnc', hcm', hcs', htake'⟩
        · omega
        refine opWp_run (by simp [Region.wanted, hg]) (run_append_op ho (by rw [q2, hv2]; exact g1)) ?_
        rw [ovr_two (by omega), hd]
        have hgl : g' < w'.heap.size := by
          rcases Nat.lt_or_ge g' w'.heap.size with h | h
          · exact h
          · rw [Array.getElem?_eq_none h] at hgc'; cases hgc'
        have hfin := hr.newTl (w' := w') (k := 0) (c := cp) (off := 0) (by_ := by_) (z := z) (f := f) (xs := xs ++ ys) (cells := cells.drop (k * sz) ++ news) (e := e) (sz := sz) (g := g') (d := d) (ob := o1) hk1 (by omega) (by rw [hX]; exact blt_lt hn) hd4 g3.os g3.tape ⟨g3.output, sem_drawn _ g1⟩ g3.size (fun b hb' => .inl (g3.block b hb' (by simp)))
          (.inl ⟨hbg', hgl⟩) (by
            rw [Nat.zero_add, Nat.zero_add, List.length_append]
            exact ⟨g2.1, .inr ⟨g', cp, cur', rfl, Nat.zero_le _, hgc', hnc', hcm', hcs', htake'⟩⟩) (fun _ => by simp) h0' (by rw [List.length_append]; exact hb) (by rw [List.length_append]; exact hl) (fun v hv => by
            rcases List.mem_append.1 hv with h | h
            · exact q7 v (List.mem_of_mem_drop h)
            · exact h12 v h) (fun i' hi' => by
            rw [Nat.zero_add]
            exact hR (cells.drop (k * sz)) htl hRt i' hi')
        rw [upd_same, hup] at hfin
        rw [List.length_append] at hfin
        exact hfin
end
end Go.Um

/- A slice of slices of the call's own, all of whose rows are written: a variable of many cells, and a family of rows. No condition. -/


namespace Go.Um
open Go Go.RowKit

def chF (f : Nat → AV) : Nat → Nat → AV
  | _, 0 => .cnil
  | j, m + 1 => .ccons (f j) (chF f (j + 1) m)
def fam (n : Nat) (F : Nat → AV) (s : St) : St := fun k => bif Nat.ble 40000 k then (bif Nat.blt (k - 40000) n then F (k - 40000) else .any) else s k
def grid (l : List (Nat × AV)) (n : Nat) (F : Nat → AV) (u : Nat) (B : AV) : St := fam n F (ofL ((30001, .box u B) :: l))

def closedG (l : List (Nat × AV)) : Bool := l.all fun p => Nat.blt p.1 40000 && (ment p.2).all fun o => Nat.beq o 30001 || l.any fun q => Nat.beq q.1 o && !Nat.beq o 30001

section
variable {P : Program} {n : Nat} {ops : Array Oper} {s : St} {o : Oper}

def freeG (l : List (Nat × AV)) : Bool := l.all fun p => Nat.blt p.1 40000 && !Nat.beq p.1 30001 && !Nat.beq p.1 30002
def lopG (P : Program) {α : Type} (I : α → Prop) (S : α → St) (μ : α → Nat) (x : α) (Q : Exit → St → Prop) : Exit → St → Prop
  | .normal, s => ∃ y, I y ∧ μ y < μ x ∧ Le P s (S y)
  | e, s => Q e s
end

section
variable {P : Program} {n : Nm} {s : St} {Q : Exit → St → Prop} {l : List Code}
end
section
variable {P : Program} {s : St}

theorem shc_one {q : Bool} {y : AV} {d : D} {K : List Nat} (hd : d.one = true) (hc : Shows q P K s y (.val d)) : ShowsC q P K s (.ccons y .cnil) d := by
  rintro X t a w β ν vs hk hr ⟨v, vs', rfl, g1, g2⟩
  obtain ⟨v', e1, g3, g4⟩ := hc X t a w β ν v hk hr g1
  simp only [List.cons.injEq, and_true] at e1
  subst e1
  simp only [VR] at g2
  subst g2
  exact (RV_one hd ⟨g3, g4⟩).1

theorem g_seal {o1 u k : Nat} {c : AV} {d : D} (hk4 : Nat.blt k 10000 = true) (ho4 : Nat.blt 9999 o1 = true) (hx : s k = .ref o1 u 0) (hb : s o1 = .box u c) (hc : ShowsC false P [] s c d) :
    GLe P ([o1, k], [k, o1]) s (upd (upd s o1 (.dead u)) k (.ptr d)) := by
  refine ⟨off_two, fun X t a w hk hr => ?_⟩
  obtain ⟨β, ν, hr⟩ := hr
  have hk' := blt_lt hk4
  have ho' := blt_lt ho4
  rw [ovr_two (by omega)]
  have hto : t o1 = .box u c := by rw [hk o1 (by simp), hb]
  have hv := hr.slot k hk'
  rw [hk k (by simp), hx] at hv
  obtain ⟨v, m, e1, h1, h2, h3⟩ := hv
  rw [hto] at h1
  simp only [ver, Option.some.injEq] at h1
  obtain ⟨b, h4, rfl⟩ := h3 h1 (by rw [hto]; rfl)
  have ho := hr.obj o1
  rw [hto] at ho
  obtain ⟨b', cs, ty, g1, g2, g3, g4⟩ := ho
  rw [h4] at g1
  cases g1
  have hlo : live (t o1) = true := by rw [hto]; rfl
  have hs : ∀ j, j ≠ o1 → j ≠ k → upd (upd t o1 (.dead u)) k (.ptr d) j = t j := fun j h1 h2 => by rw [upd_ne _ _ h2, upd_ne _ _ h1]
  have hso : upd (upd t o1 (.dead u)) k (.ptr d) o1 = .dead u := by rw [upd_ne _ _ (by omega), upd_same]
  have hlv : ∀ j, live (upd (upd t o1 (.dead u)) k (.ptr d) j) = true → j ≠ o1 ∧ j ≠ k ∧ upd (upd t o1 (.dead u)) k (.ptr d) j = t j := by
    intro j hj
    have h1 : j ≠ o1 := by rintro rfl; rw [hso] at hj; cases hj
    have h2 : j ≠ k := by rintro rfl; rw [upd_same] at hj; cases hj
    exact ⟨h1, h2, hs j h1 h2⟩
  have hgoes : Goes t (upd (upd t o1 (.dead u)) k (.ptr d)) β β ν ν := by
    intro j m hm
    by_cases e1 : j = o1
    · subst e1
      rw [hto] at hm
      simp only [ver, Option.some.injEq] at hm
      exact ⟨u, by rw [hso]; rfl, by omega, fun _ hl => by rw [hso] at hl; cases hl⟩
    · by_cases e2 : j = k
      · subst e2; rw [hr.keys j hk'] at hm; cases hm
      · refine ⟨m, by rw [hs j e1 e2]; exact hm, Nat.le_refl _, fun _ hl => ⟨by rw [← hs j e1 e2]; exact hl, rfl, rfl⟩⟩
  have hok : ∀ b, okAt X t β w b → okAt X (upd (upd t o1 (.dead u)) k (.ptr d)) β w b ∧ w.heap[b]? = w.heap[b]? := by
    intro b hb'
    refine ⟨⟨hb'.1, hb'.2.1, fun j hl => hb'.2.2 j ?_⟩, rfl⟩
    rw [← (hlv j hl).2.2]; exact hl
  refine ⟨β, ν, hr.move rfl rfl ⟨rfl, Nat.le_refl _⟩ (Nat.le_refl _) (fun _ _ _ => rfl) hok hgoes ?_ ?_ ?_ ?_ ?_ rfl rfl (fun hv => .inl (hs _ (by intro e; rw [e, hso] at hv; cases hv) (by omega)))⟩
  · intro j b hl hb'; exact .inl ⟨by rw [← (hlv j hl).2.2]; exact hl, hb'⟩
  · intro j j' b hl hl' h1 h2
    exact hr.inj j j' b (by rw [← (hlv j hl).2.2]; exact hl) (by rw [← (hlv j' hl').2.2]; exact hl') h1 h2
  · intro j hl; exact .inl ⟨(hlv j hl).2.2, rfl, rfl, fun _ _ => rfl⟩
  · intro j hj
    by_cases e2 : j = k
    · subst e2
      right
      rw [upd_same]
      have hw := hr.own o1 b hlo h4
      refine ⟨⟨b, 0, none⟩, cs.toList, e1, rfl, ⟨.inr hw.1, hw.2, fun j' hl hj' => ?_⟩, g3, ?_, R_mono d hok (Nat.le_refl _) (hc X t a w β ν _ (fun k hk' => nomatch hk') hr g4)⟩
      · obtain ⟨e3, _, e4⟩ := hlv j' hl
        exact e3 (hr.inj j' o1 b (by rw [← e4]; exact hl) hlo hj' h4)
      · intro j hj
        simp only [World.cell?, g2]
        simp at hj
        simp [hj]
    · left; exact ⟨hs j (by omega) e2, rfl⟩
  · intro j hj
    by_cases e2 : j = k
    · subst e2; rw [upd_same]; rfl
    · rw [hs j (by omega) e2]; exact hr.keys j hj
end
end Go.Um

/- A row cut short; a clipped slice that grows; data behind pointers; keys of objects to be. No condition. -/


namespace Go.Um
open Go Go.RowKit

section
variable {P : Program} {n : Nat} {ops : Array Oper} {s : St} {o : Oper}
theorem r_trim {x hi : Operand} {T e o1 u sz by_ h d : Nat} {α : Type} {f : α → D} {z : α} {xs : List α} (ho : o.op = .slice T x none (some hi) none) (hT : IsSlice P T e) (hs : Size P e sz) (hx : Sees (ev s x) (.row o1 u)) (hb : s o1 = .arr u e sz by_ f z xs)
    (hh : Sees (ev s hi) (.val (.int .i64 (h : Int)))) (h1 : h ≤ xs.length) (hd : o.dst = some d) (hg : o.guard = none) (hob : Nat.blt 9999 o1 = true) (hn : Nat.blt d n = true) (h4 : Nat.blt d 10000 = true) :
    LStep P n ops o ((o1 :: kx x) ++ kx hi, [d, o1]) s (upd (upd s o1 (.arr (u + 1) e sz by_ f z (xs.take h))) d (.row o1 (u + 1))) := by
  refine ⟨off_two, fun X t a w hX hk hr Q => ?_⟩
  obtain ⟨β, ν, hr⟩ := hr
  have hob' := blt_lt hob
  have hd4 := blt_lt h4
  obtain ⟨cells, q1, q2, q2', q3, q4, q4', q5, q6⟩ := hr.atRow (kl hk) hx hb
  have hto : t o1 = .arr u e sz by_ f z xs := by rw [hk o1 (by simp), hb]
  have hT' : P.underlying T = some (.slice e) := hT
  have hii := hr.int (kr hk) hh
  have hk1 : Kill t (upd t o1 (.dead u)) := Kill.one (by rw [hto]; rfl)
  have hlen : (xs.take h).length = h := by rw [List.length_take]; omega
  obtain ⟨v', hrun, hown, hblk⟩ : ∃ v', (execOp a.eval o).run P w = .ok (.value v') w ∧ w.ownsRow 0 e sz v' (xs.take h).length (cells.take (h * sz)) ∧ v'.ownBlock = (a.eval x).ownBlock := by
    have hle : h * sz ≤ xs.length * sz := Nat.mul_le_mul_right _ h1
    rcases q1.2 with ⟨hv, h2⟩ | ⟨g, cap, cur, hv, hbg, hgc, hnc, hcm, hcs, htake⟩
    · obtain rfl : h = 0 := by omega
      refine ⟨.slice none 0 0, ?_, by rw [hlen]; simpa using World.ownsRow_nil w 0 e sz, by rw [hv]⟩
      simp [execOp, ho, Instr.sliceAt, Instr.slice, Instr.sliceBounds, Instr.sliceBound, asIntOf, run_underlying' hT', run_sizeOf hs, hv, hii]
    · have hhc : h ≤ cap := by omega
      refine ⟨.slice (some ⟨g, 0, none⟩) h cap, ?_, ?_, by rw [hv]; rfl⟩
      · simp [execOp, ho, Instr.sliceAt, Instr.slice, Instr.sliceBounds, Instr.sliceBound, asIntOf, run_underlying' hT', run_sizeOf hs, hv, hii, hhc, Addr.add_none]
      · rw [hlen]
        refine ⟨by rw [List.length_take, q1.1]; omega, .inr ⟨g, cap, cur, rfl, hbg, hgc, hhc, hcm, hcs, ?_⟩⟩
        rw [← htake, List.take_take, Nat.min_eq_left hle]
  refine opWp_run (by simp [Region.wanted, hg]) hrun ?_
  rw [ovr_two (by omega), hd]
  have hfin := hr.grown (w' := w) (row := (a.eval x).ownBlock) (by_ := by_) (z := z) (f := f) (xs := xs.take h) (cells := cells.take (h * sz)) (d := d) (ob := o1) (v' := v') hk1 (by omega) (by rw [hX]; exact blt_lt hn) hd4 ⟨rfl, rfl, rfl, Nat.le_refl _, fun _ _ _ => rfl⟩ (Nat.le_refl _)
    (fun b hb' => ⟨o1, by rw [hto]; rfl, by rw [upd_same]; rfl, by rw [q2]; exact hb'⟩) (fun b hb' => .inl (by rw [← hblk]; exact hb')) hown q3 (by rw [hlen]; exact Nat.le_trans (Nat.mul_le_mul_right _ h1) q4) (by rw [hlen]; omega) (fun c hc => q5 c (List.mem_of_mem_take hc)) (fun i hi' => by
      have hi2 : i < h := by rw [hlen] at hi'; exact hi'
      have := q6 i (by omega)
      rw [List.getElem_take]
      have e1 : ((cells.take (h * sz)).drop (i * sz)).take sz = (cells.drop (i * sz)).take sz := by
        rw [List.drop_take, List.take_take]
        congr 1
        have : (i + 1) * sz ≤ h * sz := Nat.mul_le_mul_right _ hi2
        rw [Nat.add_mul, Nat.one_mul] at this
        omega
      rw [e1]
      exact this)
  have hup : upd (upd t o1 (.dead u)) o1 (.arr (newVer (AV.dead u)) e sz by_ f z (xs.take h)) = upd t o1 (.arr (u + 1) e sz by_ f z (xs.take h)) := by
    funext q
    by_cases e1 : q = o1
    · subst e1; rw [upd_same, upd_same]; rfl
    · rw [upd_ne _ _ e1, upd_ne _ _ e1, upd_ne _ _ e1]
  rw [upd_same, hup] at hfin
  exact hfin

theorem Sees.clp {x : AV} {d : D} (e : x = .val (.clp d)) : Sees x (.val d) := by
  subst e
  intro P ok w s β ν v h
  obtain ⟨u, e, h1, h2, h3, _⟩ := h
  exact ⟨u, e, by rw [h1, h3]; rfl, h2⟩
theorem Sees.dptr {x : AV} {d : D} (e : x = .val (.ptr d)) : Sees x (.ptr d) := by
  subst e
  intro P ok w s β ν v h
  obtain ⟨u, e, h1, p, cs, h2, h3⟩ := h
  simp only [List.cons.injEq, and_true] at e
  subst e
  have hv : v = .pointer (some p) := by
    cases v <;> simp_all [Value.cells, vAgg, D.isAgg]
  exact ⟨p, cs, by rw [hv], h3⟩
theorem p_clipC {x hi mx : Operand} {T e sz : Nat} {α : Type} {f : α → D} {z : α} {xs : List α} (ho : o.op = .slice T x none (some hi) (some mx)) (hT : IsSlice P T e) (hs : Size P e sz)
    (hx : Sees (ev s x) (.val (.list sz f z xs))) (h1 : Sees (ev s hi) (.val (.int .i64 xs.length))) (h2 : Sees (ev s mx) (.val (.int .i64 xs.length))) : PStep P o (kx x ++ (kx hi ++ kx mx)) s (.val (.clp (.list sz f z xs))) := by
  intro X t a w β ν hk hr
  obtain ⟨ad, cap, hv, hcap, hmax, hlim, hc⟩ := vr_list (hr.sees (kl hk) hx)
  have e1 := hr.int (fun k hk' => hk k (by simp [hk'])) h1
  have e2 := hr.int (fun k hk' => hk k (by simp [hk'])) h2
  refine ⟨rfl, .slice ad xs.length xs.length, ?_, ?_⟩
  · have hT' : P.underlying T = some (.slice e) := hT
    cases ad <;> simp [execOp, ho, Instr.sliceAt, Instr.slice, Instr.sliceBounds, Instr.sliceBound, asIntOf, run_underlying' hT', run_sizeOf hs, hv, e1, e2, hcap, Addr.add]
  · exact ⟨_, rfl, rfl, ⟨_, xs.length, rfl, Nat.le_refl _, by omega, by omega, fun i hi => hc i hi⟩, rfl, ad, xs.length, rfl⟩
theorem r_appendC {x y : Operand} {T e sz by_ d ob : Nat} {zv : Value} {α : Type} {f : α → D} {z z' : α} {xs ys : List α} (ho : o.op = .call { callee := .builtin .append, args := #[x, y], argTypes := #[T, T] }) (hT : IsSlice P T e) (hs : Size P e sz) (hby : Bytes P e by_) (hz : Zero P e zv) (hzs : zv.cells.size = sz)
    (h0 : Nat.blt 0 sz = true) (hx : Sees (ev s x) (.val (.clp (.list sz f z xs)))) (hy : Sees (ev s y) (.val (.list sz f z' ys))) (hb : (xs.length + ys.length) * by_ ≤ 140737488355328) (hl : xs.length + ys.length ≤ 140737488355328) (hne : ys ≠ [])
    (hd : o.dst = some d) (hg : o.guard = none) (hob : Nat.blt 9999 ob = true) (hn : Nat.blt d n = true) (h4 : Nat.blt d 10000 = true) :
    LStep P n ops o (ob :: (kx x ++ kx y), [d, ob]) s (upd (upd s ob (.arr (newVer (s ob)) e sz by_ f z (xs ++ ys))) d (.row ob (newVer (s ob)))) := by
  refine ⟨off_two, fun X t a w hX hk hr Q => ?_⟩
  obtain ⟨β, ν, hr⟩ := hr
  have hob' := blt_lt hob
  have hd4 := blt_lt h4
  have h0' := blt_lt h0
  have hk1 : ∀ k ∈ kx x ++ kx y, t k = s k := fun k hk' => hk k (by simp only [List.mem_cons]; exact .inr hk')
  have hto : t ob = s ob := hk ob (by simp)
  have hxl : Sees (ev s x) (.val (.list sz f z xs)) := fun P ok w s β ν v h => Sees.clp rfl P ok w s β ν v (hx P ok w s β ν v h)
  obtain ⟨adx, capx, olds, hvx, hlx, hnx, hcx, h1x, hRx⟩ := hr.src h0' (kl hk1) hxl
  obtain ⟨ad, cap2, news, hv2, hl2, hn2, hc2, h12, hR2⟩ := hr.src h0' (kr hk1) hy
  have hcap : capx = xs.length := by
    obtain ⟨u, e1, h1, h2, h3, a', l', h4'⟩ := hr.sees (kl hk1) hx
    simp only [List.cons.injEq, and_true] at e1
    subst e1
    rw [hvx] at h4'
    simp [Value.cells] at h4'
    omega
  subst hcap
  cases ad with
  | none => exact absurd (hn2 rfl) hne
  | some ad =>
    have hT' : P.underlying T = some (.slice e) := hT
    obtain ⟨i, hi, hiz⟩ := Option.bind_eq_some_iff.1 hz
    have his : i.size = sz := by unfold Size at hs; rw [hi] at hs; simpa using hs
    have hib : i.bytes = by_ := by unfold Bytes at hby; rw [hi] at hby; simpa using hby
    have hy0 : ys.length ≠ 0 := fun h => hne (List.eq_nil_of_length_eq_zero h)
    obtain ⟨v', w', g1, g2, g3⟩ : ∃ v' w', (Builtin.append_ #[T, T] o.type #[a.eval x, a.eval y]).run P w = .ok v' w' ∧ w'.ownsRow w.heap.size e sz v' (xs.length + ys.length) (olds ++ news) ∧ w.grownBy w' none := by
      cases adx with
      | none =>
        have hx0 := hnx rfl
        subst hx0
        have ho0 : olds = [] := by simpa using hlx
        subst ho0
        obtain ⟨v', w', g1, g2, g3, _⟩ := run_append_own (P := P) w w.heap.size T o.type e i zv sz by_ hT' hi hiz his hib hzs h0' (.slice none 0 0) 0 [] (World.ownsRow_nil w _ e sz) ad ys.length cap2 news hl2 (hc2 ad rfl) h12 (by simp only [maxLen]; omega) (by simpa using hb) (Nat.le_refl _)
        exact ⟨v', w', by rw [hvx, hv2]; exact g1, by simpa using g2, g3⟩
      | some adx =>
        rw [hvx, hv2]
        exact run_append_arg_grows (P := P) w T o.type e i zv sz by_ hT' hi hiz his hib hzs h0' adx xs.length xs.length olds hlx (hcx adx rfl) ad ys.length cap2 news hl2 (hc2 ad rfl) (by omega) (by simp only [maxLen]; omega) hb
    refine opWp_run (by simp [Region.wanted, hg]) (run_append_op ho g1) ?_
    rw [ovr_two (by omega), hd, ← hto]
    refine hr.grown (row := none) (xs := xs ++ ys) (cells := olds ++ news) (Kill.refl t) (by omega) (by rw [hX]; exact blt_lt hn) hd4 g3 (sem_drawn _ g1) (fun b hb' => by cases hb') (fun b hb' => .inr (g2.lt b hb').1) (by
      rw [List.length_append]
      refine ⟨g2.1, ?_⟩
      rcases g2.2 with h | ⟨g, cp, cur, h1, h2, h3⟩
      · exact .inl h
      · exact .inr ⟨g, cp, cur, h1, Nat.zero_le _, h3⟩) h0' (by rw [List.length_append]; exact hb) (by rw [List.length_append]; exact hl) ?_ ?_
    · intro v hv
      rcases List.mem_append.1 hv with h | h
      · exact h1x v h
      · exact h12 v h
    · exact rows_append hlx hRx hR2
theorem le_dead {k : Nat} (u : Nat) (hk4 : Nat.blt 9999 k = true) (hk9 : Nat.beq k 29999 = false) (h : s k = .any) : Le P s (upd s k (.dead u)) := by
  rintro X a w ⟨β, ν, hr⟩
  have hk4' := blt_lt hk4
  have hk9' : k ≠ 29999 := fun e => by subst e; cases hk9
  have hl : ∀ j, live (upd s k (.dead u) j) = live (s j) := fun j => by
    by_cases e : j = k
    · subst e; rw [upd_same, h]; rfl
    · rw [upd_ne _ _ e]
  have hgo : Goes s (upd s k (.dead u)) β β ν ν := fun j m hm => by
    by_cases e : j = k
    · subst e; rw [h] at hm; cases hm
    · exact ⟨m, by rw [upd_ne _ _ e]; exact hm, Nat.le_refl _, fun _ h2 => ⟨by rw [← hl j]; exact h2, rfl, rfl⟩⟩
  refine ⟨β, ν, hr.move rfl rfl ⟨rfl, Nat.le_refl _⟩ (Nat.le_refl _) (fun _ _ _ => rfl) (fun b hb => ⟨⟨hb.1, hb.2.1, fun j hj => hb.2.2 j (by rw [← hl j]; exact hj)⟩, rfl⟩) hgo (fun j b h1 h2 => .inl ⟨by rw [← hl j]; exact h1, h2⟩) (fun j j' b h1 h2 => hr.inj j j' b (by rw [← hl j]; exact h1) (by rw [← hl j']; exact h2)) ?_ ?_ ?_ rfl rfl ?_⟩
  · intro j hj
    left
    refine ⟨upd_ne _ _ (fun e => ?_), rfl, rfl, fun _ _ => rfl⟩
    subst e
    rw [upd_same] at hj
    cases hj
  · intro t ht
    exact .inl ⟨upd_ne _ _ (by omega), rfl⟩
  · intro t ht
    rw [upd_ne _ _ (by omega)]
    exact hr.keys t ht
  · intro _
    exact .inl (upd_ne _ _ (Ne.symm hk9'))
theorem sh_map {o1 u : Nat} {κ α : Type} {kv : κ → Value} {vv : α → Value} {m : List (κ × α)} {x : AV} {q : Bool} (hx : Sees x (.row o1 u)) (hb : s o1 = .mp u kv vv m) : Shows q P [o1] s x (.val .any) := by
  intro X t a w β ν v hk hr hv
  obtain ⟨v', k, e1, h1, h2, h3⟩ := hx _ _ _ _ _ _ _ hv
  simp only [List.cons.injEq, and_true] at e1
  subst e1
  have hob : t o1 = .mp u kv vv m := by rw [hk o1 (by simp), hb]
  rw [hob] at h1
  simp only [ver, Option.some.injEq] at h1
  have hv2 := h3 h1 (by rw [hob]; rfl)
  have ho := hr.obj o1
  rw [hob] at ho
  obtain ⟨b, es, cl, g1, _⟩ := ho
  rw [hv2, g1]
  exact ⟨_, rfl, rfl, _, rfl, rfl⟩
theorem res_ptr {t o1 u : Nat} {c : AV} {d : D} {K : List Nat} (ht : Nat.blt t 10000 = true) (h : s t = .ref o1 u 0) (hb : s o1 = .box u c) (hc : ShowsC true P K s c d) : ResOne P s (.tmp t) (.ptr (.agg d)) := by
  intro X a w β ν hbor hr
  have hsh := sh_refS (P := P) (s := s) (x := s t) (Sees.of h) hb hc
  have hv := hsh X s a w β ν (a.tmps.getD t undef) (fun _ _ => rfl) hr (hr.slot t (blt_lt ht))
  obtain ⟨p, cs, e, h1, h2, h3, h4, h5⟩ := hv
  simp only [List.cons.injEq, and_true] at e
  have hokk : ∀ b, okq true X s β w b → ((X.ok0 b ∨ X.w0.heap.size ≤ b) ∧ b < w.heap.size) := fun b hb' => by
    refine ⟨?_, hb'.2.1⟩
    rcases hb'.1 with h | h | h
    · exact .inl h
    · exact .inr h
    · exact absurd h (hbor b)
  refine ⟨a.tmps.getD t undef, rfl, ?_⟩
  rw [e]
  exact ⟨rfl, p, cs, rfl, h1, hokk _ h2, h3, h4, R_mono _ (fun b hb' => ⟨hokk b hb', rfl⟩) (Nat.le_refl _) h5⟩
end
end Go.Um

/- Contracts of functions whose results lie in new memory alone; functions that captured data, handed on; pointers within data. No condition. -/

namespace Go.Um
open Go Go.RowKit

section
variable {P : Program} {n : Nat} {ops : Array Oper} {s : St} {o : Oper}
def SpecF (P : Program) (f : FuncId) (args : List AV) (r : D) : Prop :=
  ∀ (w : World) (ok : Nat → Prop) (vs : List Value), (∀ b, ok b → b < w.heap.size) → ArgsR P ok w args vs →
    Calls P f vs.toArray w (fun e w' => ∃ v, e = .returned v ∧ RV P r (fun b => w.heap.size ≤ b ∧ b < w'.heap.size) w' v ∧ Belw w.heap.size w w')

def ResF (P : Program) (fn : Func) (s : St) (r : D) : Prop :=
  ∀ (X : Cx) (a : Act) (w : World) (β : Nat → Option Nat) (ν : Nat → Value), (∀ b, ¬ X.bor b) → RelB P X s a w β ν → ∃ v, (results fn a.tmps).run P w = .ok v w ∧ RV P r (fun b => X.w0.heap.size ≤ b ∧ b < w.heap.size) w v
def EndsF (P : Program) (fn : Func) (r : D) (e : Exit) (s : St) : Prop := (e = .ret ∨ e = .normal) ∧ ResF P fn s r

theorem specF_of' {f : FuncId} {fn : Func} {c : Code} {args : List AV} {r : D} (hf : P.funcs[f]? = some fn) (hb : fn.body = some c) {n : Nat} (hn : fn.ntmps = n) (hl : Nat.blt args.length (n + 1) = true)
    (h : AWs P ⟨n, true⟩ [c] (initS args) (EndsF P fn r)) : SpecF P f args r := by
  intro w ok vs hok hargs
  obtain ⟨X, hXn, rfl, rfl, hXb, hXd, hXk, hr⟩ := start_rel (fn := fn) hn (by have := blt_lt hl; omega) hok hargs
  refine calls_of_aft hf hb hXd (fun e s h => h.1) (h.one none X _ _ ⟨hXn, fun _ => rfl⟩ hr) ?_
  rintro en s X' a' w' β ν ⟨he, hres⟩ x1 x2 x3 x4 x5 x6 hr'
  obtain ⟨v, hv1, hv2⟩ := hres X' a' w' β ν (fun b => by rw [x4]; exact hXb b) hr'
  rw [x2] at hv2
  refine ⟨v, hv1, v, rfl, hv2, ⟨⟨?_, ?_, ?_, ?_, ?_⟩, ?_⟩⟩
  · rw [← x2]; exact hr'.os
  · rw [← x2]; exact hr'.tape
  · rw [← x2]; exact hr'.output
  · rw [← x2]; exact hr'.size
  · intro k hk; rw [← x2] at hk ⊢; exact hr'.frame k hk (by rw [x4]; exact hXb k)
  · rw [← x2]; exact hr'.drawn

def ResOneF (P : Program) (s : St) (r : ResultVar) (d : D) : Prop :=
  ∀ (X : Cx) (a : Act) (w : World) (β : Nat → Option Nat) (ν : Nat → Value), (∀ b, ¬ X.bor b) → RelB P X s a w β ν → ∃ v, (runRes a.tmps r).run P w = .ok v w ∧ RV P d (fun b => X.w0.heap.size ≤ b ∧ b < w.heap.size) w v

theorem resF_flat {t : Nat} {d : D} (ht : Nat.blt t 10000 = true) (h : Sees (s t) (.val d)) (hf : d.flat = true) : ResOneF P s (.tmp t) d := by
  intro X a w β ν _ hr
  obtain ⟨v, e, hv⟩ := h _ _ _ _ _ _ _ (hr.slot t (blt_lt ht))
  simp only [List.cons.injEq, and_true] at e
  exact ⟨v, by simp only [runRes, e]; rfl, hv.1, R_flat _ hf hv.2⟩

theorem resF_row {t o1 u e sz by_ : Nat} {α : Type} {f : α → D} {z : α} {xs : List α} (ht : Nat.blt t 10000 = true) (h : s t = .row o1 u) (hb : s o1 = .arr u e sz by_ f z xs) (hf : ∀ x, (f x).flat = true) : ResOneF P s (.tmp t) (.list sz f z xs) := by
  intro X a w β ν hbor hr
  have hx : ev s (.tmp t) = .row o1 u := by simp only [ev, ht, cond_true]; exact h
  obtain ⟨cells, q1, q2, q2', q3, q4, q4', q5, q6⟩ := hr.atRow (s := s) (x := .tmp t) (fun _ _ => rfl) (Sees.of hx) hb
  refine ⟨a.eval (.tmp t), rfl, row_reads' (ok := fun _ => False) q1 rfl (fun b hb' => hb'.elim) (fun b hb' => ?_) q5 q4' (fun i hi => R_flat _ (hf _) (q6 i hi))⟩
  have hw := hr.own o1 b (by rw [hb]; rfl) (by rw [q2]; exact hb')
  exact ⟨hw.1.elim id (fun h => absurd h (hbor b)), hw.2⟩

theorem resF2 {fn : Func} {r1 r2 : ResultVar} {d1 d2 : D} (hf : fn.results = #[r1, r2]) (h1 : ResOneF P s r1 d1) (h2 : ResOneF P s r2 d2) : ResF P fn s (.tup (.cons d1 (.cons d2 .nil))) := by
  intro X a w β ν hb hr
  obtain ⟨v1, g1, k1⟩ := h1 X a w β ν hb hr
  obtain ⟨v2, g2, k2⟩ := h2 X a w β ν hb hr
  refine ⟨.tuple #[v1, v2], ?_, rfl, #[v1, v2], rfl, v1, [v2], rfl, k1.1, k1.2, v2, [], rfl, k2.1, k2.2, rfl⟩
  rw [results_eq, hf]
  simp [g1, g2]
theorem resF1 {fn : Func} {r1 : ResultVar} {d1 : D} (hf : fn.results = #[r1]) (h1 : ResOneF P s r1 d1) : ResF P fn s d1 := by
  intro X a w β ν hb hr
  obtain ⟨v1, g1, k1⟩ := h1 X a w β ν hb hr
  refine ⟨v1, ?_, k1⟩
  rw [results_eq, hf]
  simp [g1]
theorem resF_eq {fn : Func} {r r' : D} (h : ResF P fn s r) (e : r = r') : ResF P fn s r' := e ▸ h
theorem endsF_ret {fn : Func} {r : D} (h : ResF P fn s r) : EndsF P fn r .ret s := ⟨.inl rfl, h⟩
theorem c_callF {q : Bool} {f : FuncId} {xs : List Operand} {T : Array TypeId} {ys : List AV} {K : List Nat} {r : D} (ho : o.op = .call { callee := .value (.func f), args := xs.toArray, argTypes := T }) (hf : IsFn P f) (hs : SpecF P f ys r) (hx : SArgs q P s xs ys K) :
    CStep P o K s (.val r) := by
  intro X t a w β ν hk hr
  refine ⟨rfl, fun Q K' hK => ?_⟩
  have hargs := SArgs.args hr hk hx
  have hc := hs w (okq q X t β w) _ (fun b hb => okq_lt hb) hargs
  have hrun : (execOp a.eval o).run P w = .ok (.enter f (xs.map a.eval).toArray) w := by
    simp [execOp, ho, resolve, Act.eval, Deferred.ofValue, invoke, run_callFunc hf]
  unfold Oper.wp
  rw [hrun]
  refine hc.mono ?_
  rintro e w' ⟨v, rfl, hv, hbel⟩
  exact hK v w' (hr.below hbel) ⟨v, rfl, hv.1, R_mono _ (fun b hb => ⟨⟨.inr (.inl (Nat.le_trans hr.size hb.1)), hb.2, fun o hl h => by have := (hr.own o b hl h).2; omega⟩, rfl⟩) (Nat.le_refl _) hv.2⟩
theorem le_bump {o1 u k e sz by_ : Nat} {α : Type} {f : α → D} {z : α} {xs : List α} (ho4 : Nat.blt 9999 o1 = true) (ho9 : Nat.beq o1 29999 = false) (hk4 : Nat.blt k 10000 = true) (hx : s k = .row o1 u) (hb : s o1 = .arr u e sz by_ f z xs) : Le P s (upd (upd s o1 (.arr (u + 1) e sz by_ f z xs)) k (.row o1 (u + 1))) := by
  rintro X a w ⟨β, ν, hr⟩
  have ho4' := blt_lt ho4
  have hk4' := blt_lt hk4
  have ho9' : o1 ≠ 29999 := fun e => by subst e; cases ho9
  have hne : k ≠ o1 := by omega
  have eo : upd (upd s o1 (.arr (u + 1) e sz by_ f z xs)) k (.row o1 (u + 1)) o1 = .arr (u + 1) e sz by_ f z xs := by rw [upd_ne _ _ (Ne.symm hne), upd_same]
  have ek : upd (upd s o1 (.arr (u + 1) e sz by_ f z xs)) k (.row o1 (u + 1)) k = .row o1 (u + 1) := upd_same ..
  have el : ∀ j, j ≠ o1 → j ≠ k → upd (upd s o1 (.arr (u + 1) e sz by_ f z xs)) k (.row o1 (u + 1)) j = s j := fun j h1 h2 => by rw [upd_ne _ _ h2, upd_ne _ _ h1]
  generalize upd (upd s o1 (.arr (u + 1) e sz by_ f z xs)) k (.row o1 (u + 1)) = s' at eo ek el
  have hl : ∀ j, live (s' j) = live (s j) := fun j => by
    by_cases h1 : j = o1
    · subst h1; rw [eo, hb]; rfl
    · by_cases h2 : j = k
      · subst h2; rw [ek, hx]; rfl
      · rw [el j h1 h2]
  have hgo : Goes s s' β β ν ν := fun j m hm => by
    by_cases h1 : j = o1
    · subst h1
      rw [hb] at hm
      simp only [ver, Option.some.injEq] at hm
      exact ⟨u + 1, by rw [eo]; rfl, by omega, fun e _ => by omega⟩
    · by_cases h2 : j = k
      · subst h2; rw [hx] at hm; cases hm
      · exact ⟨m, by rw [el j h1 h2]; exact hm, Nat.le_refl _, fun _ h => ⟨by rw [← hl j]; exact h, rfl, rfl⟩⟩
  have hok : ∀ b, okAt X s β w b → okAt X s' β w b ∧ w.heap[b]? = w.heap[b]? := fun b hb' => ⟨⟨hb'.1, hb'.2.1, fun j hj => hb'.2.2 j (by rw [← hl j]; exact hj)⟩, rfl⟩
  refine ⟨β, ν, hr.move rfl rfl ⟨rfl, Nat.le_refl _⟩ (Nat.le_refl _) (fun _ _ _ => rfl) hok hgo (fun j b h1 h2 => .inl ⟨by rw [← hl j]; exact h1, h2⟩) (fun j j' b h1 h2 => hr.inj j j' b (by rw [← hl j]; exact h1) (by rw [← hl j']; exact h2)) ?_ ?_ ?_ rfl rfl ?_⟩
  · intro j hj
    by_cases h1 : j = o1
    · subst h1
      right
      rw [eo]
      have ho := hr.obj j
      rw [hb] at ho
      obtain ⟨cells, g1, g2, g3, g4, g4', g5, g6⟩ := ho
      exact ⟨cells, g1, g2, g3, g4, g4', g5, fun i hi => R_mono _ hok (Nat.le_refl _) (g6 i hi)⟩
    · left
      refine ⟨el j h1 (fun h2 => ?_), rfl, rfl, fun _ _ => rfl⟩
      subst h2
      rw [ek] at hj
      cases hj
  · intro t ht
    by_cases h2 : t = k
    · subst h2
      right
      rw [ek]
      have hv := hr.slot t ht
      rw [hx] at hv
      obtain ⟨v, m, e1, h3, h4, h5⟩ := hv
      rw [hb] at h3
      simp only [ver, Option.some.injEq] at h3
      exact ⟨v, u + 1, e1, by rw [eo]; rfl, Nat.le_refl _, fun _ _ => h5 h3 (by rw [hb]; rfl)⟩
    · exact .inl ⟨el t (by omega) h2, rfl⟩
  · intro t ht
    by_cases h2 : t = k
    · subst h2; rw [ek]; rfl
    · rw [el t (by omega) h2]; exact hr.keys t ht
  · intro _
    exact .inl (el _ (Ne.symm ho9') (by omega))
theorem vr_clo1 {ok : Nat → Prop} {w : World} {st : St} {β : Nat → Option Nat} {ν : Nat → Value} {v : Value} {F : FuncId} {d : D} {α : Type} {f g : α → D} (hF : IsFn P F) (hch : ∀ x, (f x).chain = true) (hg : ∀ x, (g x).flat = true) (hok : ∀ b, ok b → b < w.heap.size)
    (hS : ∀ x, Spec P F (cAV (f x) ++ [.ptr d]) (g x)) (hv : VR P ok w st β ν (.clo F (.ccons (.ptr d) .cnil)) [v]) : VR P ok w st β ν (.val (.fn f g)) [v] := by
  obtain ⟨caps, e1, v1, vs, e2, h1, h2⟩ := hv
  simp only [List.cons.injEq, and_true] at e1
  subst e1
  have hvs : vs = [] := h2
  subst hvs
  refine ⟨_, rfl, rfl, F, caps, rfl, hF, fun x w' ok' args hkeep hsz hok' hR => ?_⟩
  have hA : ArgsR P (fun b => ok' b ∨ ok b) w' (cAV (f x) ++ [.ptr d]) (args ++ caps.toList) := by
    refine ArgsR_append (ArgsR_mono (fun b hb => ⟨.inl hb, rfl⟩) (Nat.le_refl _) (R_chain (hch x) hR)) ?_
    rw [e2]
    exact ⟨v1, [], rfl, VR_monoC' (fun b hb => ⟨.inr hb, hkeep b hb⟩) hsz (.ptr d) (fun o ho => by cases ho) h1, rfl⟩
  have hC := hS x w' _ _ (fun b hb => hb.elim (hok' b) (fun hb => Nat.lt_of_lt_of_le (hok b hb) hsz)) hA
  have e : (args ++ caps.toList).toArray = args.toArray ++ caps := by simp
  rw [e] at hC
  refine hC.mono ?_
  rintro e w'' ⟨v, rfl, hv, hb⟩
  exact ⟨v, rfl, hv.1, R_flat _ (hg x) hv.2, hb⟩

theorem SpecV.clo1 {f : FuncId} {y : AV} {F : FuncId} {d : D} {α : Type} {fa ga : α → D} {S0 S1 : List (Nat × AV)} {r : AV} (h : SpecV P f [y, .val (.fn fa ga)] S0 r S1) (hF : IsFn P F) (hch : ∀ x, (fa x).chain = true) (hg : ∀ x, (ga x).flat = true) (hS : ∀ x, Spec P F (cAV (fa x) ++ [.ptr d]) (ga x)) :
    SpecV P f [y, .clo F (.ccons (.ptr d) .cnil)] S0 r S1 := by
  intro X a β ν vs hr hargs
  obtain ⟨v, vs', rfl, hv, v2, vs2, rfl, hv2, rfl⟩ := hargs
  exact h X a β ν [v, v2] hr ⟨v, _, rfl, hv, v2, _, rfl, vr_clo1 hF hch hg (fun b hb => hb.2.1) hS hv2, rfl⟩
theorem sh_refD {o1 u : Nat} {c : AV} {d : D} {K : List Nat} {x : AV} (hx : Sees x (.ref o1 u 0)) (hb : s o1 = .box u c) (hc : ShowsC true P K s c d) : Shows true P (o1 :: K) s x (.val (.ptr (.agg d))) := by
  intro X t a w β ν v hk hr hv
  obtain ⟨p, cs, e, h1⟩ := sh_refS hx hb hc X t a w β ν v hk hr hv
  simp only [List.cons.injEq, and_true] at e
  subst e
  exact ⟨_, rfl, rfl, p, cs, rfl, h1⟩
end
end Go.Um

/- Variables that hold objects: sealed, shown, stored; results in variables. No condition. -/


namespace Go.Um
open Go Go.RowKit

section
variable {P : Program} {n : Nat} {ops : Array Oper} {s : St} {o : Oper}
theorem g_sealK {o1 u k : Nat} {c : AV} {d : D} {K : List Nat} (hk4 : Nat.blt k 10000 = true) (ho4 : Nat.blt 9999 o1 = true) (hx : s k = .ref o1 u 0) (hb : s o1 = .box u c) (hc : ShowsC false P K s c d) :
    GLe P (o1 :: k :: K, [k, o1]) s (upd (upd s o1 (.dead u)) k (.ptr d)) := by
  refine ⟨off_two, fun X t a w hk hr => ?_⟩
  obtain ⟨β, ν, hr⟩ := hr
  have hk' := blt_lt hk4
  have ho' := blt_lt ho4
  rw [ovr_two (by omega)]
  have hto : t o1 = .box u c := by rw [hk o1 (by simp), hb]
  have hv := hr.slot k hk'
  rw [hk k (by simp), hx] at hv
  obtain ⟨v, m, e1, h1, h2, h3⟩ := hv
  rw [hto] at h1
  simp only [ver, Option.some.injEq] at h1
  obtain ⟨b, h4, rfl⟩ := h3 h1 (by rw [hto]; rfl)
  have ho := hr.obj o1
  rw [hto] at ho
  obtain ⟨b', cs, ty, g1, g2, g3, g4⟩ := ho
  rw [h4] at g1
  cases g1
  have hlo : live (t o1) = true := by rw [hto]; rfl
  have hs : ∀ j, j ≠ o1 → j ≠ k → upd (upd t o1 (.dead u)) k (.ptr d) j = t j := fun j h1 h2 => by rw [upd_ne _ _ h2, upd_ne _ _ h1]
  have hso : upd (upd t o1 (.dead u)) k (.ptr d) o1 = .dead u := by rw [upd_ne _ _ (by omega), upd_same]
  have hlv : ∀ j, live (upd (upd t o1 (.dead u)) k (.ptr d) j) = true → j ≠ o1 ∧ j ≠ k ∧ upd (upd t o1 (.dead u)) k (.ptr d) j = t j := by
    intro j hj
    have h1 : j ≠ o1 := by rintro rfl; rw [hso] at hj; cases hj
    have h2 : j ≠ k := by rintro rfl; rw [upd_same] at hj; cases hj
    exact ⟨h1, h2, hs j h1 h2⟩
  have hgoes : Goes t (upd (upd t o1 (.dead u)) k (.ptr d)) β β ν ν := by
    intro j m hm
    by_cases e1 : j = o1
    · subst e1
      rw [hto] at hm
      simp only [ver, Option.some.injEq] at hm
      exact ⟨u, by rw [hso]; rfl, by omega, fun _ hl => by rw [hso] at hl; cases hl⟩
    · by_cases e2 : j = k
      · subst e2; rw [hr.keys j hk'] at hm; cases hm
      · refine ⟨m, by rw [hs j e1 e2]; exact hm, Nat.le_refl _, fun _ hl => ⟨by rw [← hs j e1 e2]; exact hl, rfl, rfl⟩⟩
  have hok : ∀ b, okAt X t β w b → okAt X (upd (upd t o1 (.dead u)) k (.ptr d)) β w b ∧ w.heap[b]? = w.heap[b]? := by
    intro b hb'
    refine ⟨⟨hb'.1, hb'.2.1, fun j hl => hb'.2.2 j ?_⟩, rfl⟩
    rw [← (hlv j hl).2.2]; exact hl
  refine ⟨β, ν, hr.move rfl rfl ⟨rfl, Nat.le_refl _⟩ (Nat.le_refl _) (fun _ _ _ => rfl) hok hgoes ?_ ?_ ?_ ?_ ?_ rfl rfl (fun hv => .inl (hs _ (by intro e; rw [e, hso] at hv; cases hv) (by omega)))⟩
  · intro j b hl hb'; exact .inl ⟨by rw [← (hlv j hl).2.2]; exact hl, hb'⟩
  · intro j j' b hl hl' h1 h2
    exact hr.inj j j' b (by rw [← (hlv j hl).2.2]; exact hl) (by rw [← (hlv j' hl').2.2]; exact hl') h1 h2
  · intro j hl; exact .inl ⟨(hlv j hl).2.2, rfl, rfl, fun _ _ => rfl⟩
  · intro j hj
    by_cases e2 : j = k
    · subst e2
      right
      rw [upd_same]
      have hw := hr.own o1 b hlo h4
      refine ⟨⟨b, 0, none⟩, cs.toList, e1, rfl, ⟨.inr hw.1, hw.2, fun j' hl hj' => ?_⟩, g3, ?_, R_mono d hok (Nat.le_refl _) (hc X t a w β ν _ (fun j hj => hk j (by simp [hj])) hr g4)⟩
      · obtain ⟨e3, _, e4⟩ := hlv j' hl
        exact e3 (hr.inj j' o1 b (by rw [← e4]; exact hl) hlo hj' h4)
      · intro j hj
        simp only [World.cell?, g2]
        simp at hj
        simp [hj]
    · left; exact ⟨hs j (by omega) e2, rfl⟩
  · intro j hj
    by_cases e2 : j = k
    · subst e2; rw [upd_same]; rfl
    · rw [hs j (by omega) e2]; exact hr.keys j hj
theorem g_sealKS {o1 u k : Nat} {c : AV} {d : D} {K : List Nat} (hk4 : Nat.blt k 10000 = true) (ho4 : Nat.blt 9999 o1 = true) (hx : s k = .ref o1 u 0) (hb : s o1 = .box u c) (hc : ShowsC false P K s c d) :
    GLe P (o1 :: k :: K, [k, o1]) s (upd (upd s o1 (.dead u)) k (.ptr (.agg d))) := g_sealK (d := .agg d) hk4 ho4 hx hb hc
theorem le_kill {k u : Nat} (hk4 : Nat.blt 9999 k = true) (hk9 : Nat.beq k 29999 = false) (h : ver (s k) = some u) : Le P s (upd s k (.dead u)) := by
  rintro X a w ⟨β, ν, hr⟩
  have hk4' := blt_lt hk4
  have hk9' : k ≠ 29999 := fun e => by subst e; cases hk9
  have hl : ∀ j, live (upd s k (.dead u) j) = true → live (s j) = true ∧ j ≠ k := fun j hj => by
    by_cases e : j = k
    · subst e; rw [upd_same] at hj; cases hj
    · rw [upd_ne _ _ e] at hj; exact ⟨hj, e⟩
  have hgo : Goes s (upd s k (.dead u)) β β ν ν := fun j m hm => by
    by_cases e : j = k
    · subst e
      rw [h] at hm
      cases hm
      exact ⟨u, by rw [upd_same]; rfl, Nat.le_refl _, fun _ h2 => by rw [upd_same] at h2; cases h2⟩
    · exact ⟨m, by rw [upd_ne _ _ e]; exact hm, Nat.le_refl _, fun _ h2 => ⟨(hl j h2).1, rfl, rfl⟩⟩
  refine ⟨β, ν, hr.move rfl rfl ⟨rfl, Nat.le_refl _⟩ (Nat.le_refl _) (fun _ _ _ => rfl) (fun b hb => ⟨⟨hb.1, hb.2.1, fun j hj => hb.2.2 j (hl j hj).1⟩, rfl⟩) hgo (fun j b h1 h2 => .inl ⟨(hl j h1).1, h2⟩) (fun j j' b h1 h2 => hr.inj j j' b (hl j h1).1 (hl j' h2).1) ?_ ?_ ?_ rfl rfl ?_⟩
  · intro j hj
    left
    exact ⟨upd_ne _ _ (hl j hj).2, rfl, rfl, fun _ _ => rfl⟩
  · intro t ht
    exact .inl ⟨upd_ne _ _ (by omega), rfl⟩
  · intro t ht
    rw [upd_ne _ _ (by omega)]
    exact hr.keys t ht
  · intro _
    exact .inl (upd_ne _ _ (Ne.symm hk9'))

theorem oneAt_ref {o1 u : Nat} {c : AV} (hb : s o1 = .box u c) : OneAt P s [o1] (.ref o1 u 0) := by
  intro X t a w β ν v hk hr hv
  obtain ⟨q, k, e, h1, h2, h3⟩ := hv
  simp only [List.cons.injEq, and_true] at e
  have hob : t o1 = .box u c := by rw [hk o1 (by simp), hb]
  rw [hob] at h1
  simp only [ver, Option.some.injEq] at h1
  obtain ⟨b, _, hq⟩ := h3 h1 (by rw [hob]; rfl)
  rw [e, hq]
  rfl

theorem oneAt_row {o1 u e sz by_ : Nat} {α : Type} {f : α → D} {z : α} {xs : List α} (hb : s o1 = .arr u e sz by_ f z xs) : OneAt P s [o1] (.row o1 u) := by
  intro X t a w β ν v hk hr hv
  obtain ⟨q, k, e1, h1, h2, h3⟩ := hv
  simp only [List.cons.injEq, and_true] at e1
  have hob : t o1 = .arr u e sz by_ f z xs := by rw [hk o1 (by simp), hb]
  rw [hob] at h1
  simp only [ver, Option.some.injEq] at h1
  have hq := h3 h1 (by rw [hob]; rfl)
  have ho := hr.obj o1
  rw [hob] at ho
  obtain ⟨cells, g1, _⟩ := ho
  rw [e1, hq]
  rcases g1.2 with ⟨h6, _⟩ | ⟨g, cap, cur, h6, _⟩
  · rw [h6]; rfl
  · rw [h6]; rfl
theorem r_storeO {x y : Operand} {T ob u off : Nat} {c v : AV} {K : List Nat} (ho : o.op = .store T x y) (hs : Size P T 1) (hd : o.dst = none) (hg : o.guard = none) (hob : Nat.blt 9999 ob = true) (hx : Sees (ev s x) (.ref ob u off)) (hb : s ob = .box u c) (hi : Nat.blt off c.len = true) (hy : Sees (ev s y) v)
    (h1 : OneAt P s K v) : LStep P n ops o ((ob :: kx x) ++ (K ++ kx y), [ob]) s (upd s ob (.box u (c.set off v))) := by
  refine ⟨upd_off, fun X t a w hX hk hr Q => ?_⟩
  obtain ⟨β, ν, hr⟩ := hr
  obtain ⟨b, cs, ty, g1, g2, g3, g4, g5⟩ := hr.atBox (kl hk) hx hb
  have hv := hr.sees (kr (kr hk)) hy
  have hv1 := h1 X t a w β ν _ (kl (kr hk)) hr hv
  have hlt : off < cs.size := by
    obtain ⟨q, hq, _⟩ := VR_nth c off g5 (blt_lt hi)
    have := (List.getElem?_eq_some_iff.1 hq).1
    simpa using this
  have hcl : (a.eval y).cells.toList = [a.eval y] := by
    generalize a.eval y = q at hv1
    cases q <;> simp_all [Value.cells, Value.oneCell']
  have hcz : (a.eval y).cells.size = 1 := by rw [← Array.length_toList, hcl]; rfl
  have hrun : (execOp a.eval o).run P w = .ok .skip (w.setRow b (cs.toList.set off (a.eval y)).toArray) := by
    have hst := run_storeCells_at (P := P) b off ty [a.eval y] 0 cs w g3 (by simp; omega) (by simpa using hv1)
    have e : (cs.toList.take (off + 0) ++ [a.eval y] ++ cs.toList.drop (off + 0 + [a.eval y].length)) = cs.toList.set off (a.eval y) := by
      simp only [Nat.add_zero, List.length_singleton, List.append_assoc, List.singleton_append]
      rw [List.set_eq_take_append_cons_drop]
      simp [hlt]
    rw [e] at hst
    simp [execOp, ho, Instr.storeAt, g1, Instr.sureAddr, storeVar, run_sizeOf hs, hcz, hcl, hst]
  refine opWp_skip (by simp [Region.wanted, hg]) hd hrun ?_
  rw [ovr_one]
  have hob' := blt_lt hob
  refine ⟨β, ν, hr.setBox (by omega) (by rw [hk ob (by simp), hb]) g2 g3 ?_ ?_⟩
  · intro q hq
    rcases List.mem_or_eq_of_mem_set hq with h | h
    · exact g4 q h
    · rw [h]; exact hv1
  · exact VR_set c off v _ g5 (blt_lt hi) hv

theorem resB1_cell {t T k ob u : Nat} {c : AV} (ht : Nat.blt t 10000 = true) (h : s t = .ref ob u 0) (hb : s ob = .box u c) (hT : IsAgg P T true) (hs : Size P T k) (hc : c.isD = true) (hk : c.len = k) : ResOneB P s (.cell t T) (.agg c.toD) := by
  intro X a w β ν hr
  have hx : ev s (.tmp t) = .ref ob u 0 := by simp only [ev, ht, cond_true]; exact h
  obtain ⟨b, cs, ty, h1, h2, h3, h4, h5⟩ := hr.atBox (s := s) (x := .tmp t) (fun _ _ => rfl) (Sees.of hx) hb
  obtain ⟨g1, g2, g3⟩ := VR_toD c hc h5
  have hlc := run_loadCells_list (P := P) w ⟨b, 0, none⟩ cs.toList (fun j v hj => by
    rw [Addr.add_none rfl]
    simp only [World.cell?, h3]
    simpa using hj)
  rw [show cs.toList.length = k by omega] at hlc
  have h1' : a.tmps.getD t undef = .pointer (some ⟨b, 0, none⟩) := h1
  refine ⟨.agg cs, ?_, rfl, by simpa [R, Value.cells] using g1⟩
  simp only [runRes, h1']
  simp [asAddr, loadVar, run_isAgg hT, run_sizeOf hs, hlc]

theorem resB1 {fn : Func} {rv : ResultVar} {d : D} (hf : fn.results = #[rv]) (h : ResOneB P s rv d) : ResB P fn s d := by
  intro X a w β ν hr
  obtain ⟨v, h1, h2⟩ := h X a w β ν hr
  refine ⟨v, ?_, h2⟩
  rw [results_eq, hf]
  simp [h1]
end
end Go.Um

/- Sets of numbers as maps; entries of a map's literal. No condition. -/


namespace Go.Um
open Go Go.RowKit

section
variable {P : Program} {n : Nat} {ops : Array Oper} {s : St} {o : Oper}
theorem r_mapIns {x y q : Operand} {T K E o1 u : Nat} {κ α : Type} [DecidableEq κ] {kv : κ → Value} {kd : κ → D} {vv : α → Value} {vd : α → D} {z : α} {m : List (κ × α)} {k : κ} {v : α} (ho : o.op = .insert T x y q) (hT : MapTy P T K E kv kd vv vd z)
    (hd : o.dst = none) (hg : o.guard = none) (hob : Nat.blt 9999 o1 = true) (hx : Sees (ev s x) (.row o1 u)) (hb : s o1 = .mp u kv vv m) (hy : Sees (ev s y) (.val (kd k))) (hq : Sees (ev s q) (.val (vd v))) :
    LStep P n ops o ((o1 :: kx x) ++ (kx y ++ kx q), [o1]) s (upd s o1 (.mp u kv vv (putL m k v))) := by
  refine ⟨upd_off, fun X t a w hX hk hr Q => ?_⟩
  obtain ⟨β, ν, hr⟩ := hr
  obtain ⟨b, es, cl, e1, hβ, hν, hh, hm⟩ := hr.atMap (kl hk) hx hb
  obtain ⟨v1, e2, hv⟩ := hr.sees (fun k hk' => kr hk k (by simp [hk'])) hy
  obtain ⟨v2, e4, hv2⟩ := hr.sees (fun k hk' => kr hk k (by simp [hk'])) hq
  simp only [List.cons.injEq, and_true] at e2 e4
  have e3 := hT.key k _ _ _ hv
  have e5 := hT.valr v _ _ _ hv2
  have hlob : live (t o1) = true := by rw [hk o1 (by simp), hb]; rfl
  have hlt := (hr.own o1 b hlob hβ).2
  have hf := hT.find k m es.toList w hm
  have hu := run_underlying hT.und w
  have hc := fun e => hT.check e k w
  have hob' := blt_lt hob
  have hput : ∃ es' cl', (execOp a.eval o).run P w = .ok .skip { w with heap := w.heap.setIfInBounds b (.map es' cl') } ∧ es'.toList.map (fun e => (e.key, e.val)) = (putL m k v).map (fun p => (kv p.1, vv p.2)) := by
    cases hfd : fnd vv m k 0 with
    | none =>
      rw [hfd] at hf
      refine ⟨es.push { key := kv k, val := vv v, born := cl }, cl + 1, ?_, ?_⟩
      · simp [execOp, ho, Instr.mapUpdate, e1, e2, e3, e4, e5, hu, run_getM hh, hc, hf, run_setM _ hh]
      · rw [push_put k v m 0 hfd, ← hm]; simp
    | some p =>
      obtain ⟨i, x0⟩ := p
      rw [hfd] at hf
      obtain ⟨_, h2, h3, h4⟩ := modify_put (vv := vv) k v (kv k) rfl m es.toList 0 i x0 hm hfd
      simp only [Nat.sub_zero] at h2 h3 h4
      refine ⟨es.modify i fun e => { e with key := kv k, val := vv v }, cl, ?_, ?_⟩
      · have hk' : ((es[i]?).map (·.key)).getD (kv k) = kv k := by
          have : (es[i]?).map (·.key) = some (kv k) := by simpa using h3
          rw [this]; rfl
        have hkt : (Instr.keyThatStays (kv k) (kv k)).run P w = .ok (kv k) w := by simp [Instr.keyThatStays, hT.same k]
        simp [execOp, ho, Instr.mapUpdate, e1, e2, e3, e4, e5, hu, run_getM hh, hc, hf, run_setM _ hh, hk', hkt]
      · rw [← h4]; simp
  obtain ⟨es', cl', hrun, hes⟩ := hput
  refine opWp_skip (by simp [Region.wanted, hg]) hd hrun ?_
  rw [ovr_one]
  exact ⟨β, ν, hr.setMap (by omega) (by rw [hk o1 (by simp), hb]) hβ (by rw [hν, e1]) rfl hes⟩
end

namespace Sp
def vput (m : List (Int × Bool)) (x : Int) : List (Int × Bool) := putL m x true
def vmap (L : List Int) : List (Int × Bool) := L.foldl vput []
theorem vput_get (x : Int) : ∀ (m : List (Int × Bool)) (y : Int), (getL (vput m x) y).getD false = (decide (y = x) || (getL m y).getD false)
  | [], y => by
    unfold vput putL getL
    by_cases h : y = x
    · simp [h]
    · simp [h, getL]
  | (k, v) :: m, y => by
    have ih := vput_get x m y
    unfold vput at ih ⊢
    unfold putL
    by_cases h : x = k
    · rw [if_pos h]
      unfold getL
      by_cases h2 : y = k
      · rw [if_pos h2]; simp [h, h2]
      · rw [if_neg h2, if_neg h2]; simp [h, h2]
    · rw [if_neg h]
      unfold getL
      by_cases h2 : y = k
      · rw [if_pos h2, if_pos h2]; simp [h2, Ne.symm h]
      · rw [if_neg h2, if_neg h2]; exact ih
theorem vfold_get (y : Int) : ∀ (L : List Int) (m : List (Int × Bool)), (getL (L.foldl vput m) y).getD false = (decide (y ∈ L) || (getL m y).getD false)
  | [], m => by simp
  | x :: L, m => by
    rw [List.foldl_cons, vfold_get y L, vput_get]
    by_cases h1 : y ∈ L <;> by_cases h2 : y = x <;> simp [h1, h2]
theorem vmap_get (L : List Int) (y : Int) : (getL (vmap L) y).getD false = decide (y ∈ L) := by
  unfold vmap
  rw [vfold_get]
  simp [getL]
theorem vmap_put (L : List Int) (x : Int) : putL (vmap L) x true = vmap (L ++ [x]) := by
  unfold vmap
  rw [List.foldl_append]
  rfl
end Sp
end Go.Um
