/- A slice of a row from an element on: made, measured, indexed, cleared; 'x[:len(x):len(x)]'. No condition. -/
import Derived.Test.YtofonmfoificjaaRow2
import Derived.Test.YtofonmfoificjaaNew
namespace Go.Um
open Go Go.RowKit

section
variable {P : Program} {n : Nat} {ops : Array Oper} {s : St} {o : Oper}

/-- 'x[lo:]' of a row, lo ahead of its end. -/
theorem p_subS {x lo : Operand} {T e o1 u sz by_ l : Nat} {α : Type} {f : α → D} {z : α} {xs : List α} (ho : o.op = .slice T x (some lo) none none) (hT : IsSlice P T e) (hs : Size P e sz) (hx : Sees (ev s x) (.row o1 u)) (hb : s o1 = .arr u e sz by_ f z xs)
    (hl : Sees (ev s lo) (.val (.int .i64 (l : Int)))) (h1 : l < xs.length) : PStep P o ((o1 :: kx x) ++ kx lo) s (.sub o1 u sz l) := by
  intro X t a w β ν hk hr
  obtain ⟨cells, q1, q2, q2', q3, _⟩ := hr.atRow (kl hk) hx hb
  rcases q1.2 with ⟨_, h2⟩ | ⟨g, cap, cur, hv, _, hg, hnc, hcm, hcs, htake⟩
  · omega
  · refine ⟨rfl, .slice (some ⟨g, l * sz, none⟩) (xs.length - l) (cap - l), ?_, ?_⟩
    · have hT' : P.underlying T = some (.slice e) := hT
      have hii := hr.int (kr hk) hl
      have hne : ¬ cap = l := by omega
      have hle : l ≤ xs.length := by omega
      simp [execOp, ho, Instr.sliceAt, Instr.slice, Instr.sliceBounds, Instr.sliceBound, asIntOf, run_underlying' hT', run_sizeOf hs, hv, hii, hne, hle, Addr.add_none]
    · have hto : t o1 = .arr u e sz by_ f z xs := by rw [hk o1 (by simp), hb]
      exact ⟨_, u, rfl, by rw [hto]; rfl, Nat.le_refl _, fun _ _ => ⟨g, xs.length, cap, by rw [q2', hv], rfl⟩⟩

theorem RelB.atSub {X : Cx} {t : St} {a : Act} {w : World} {β : Nat → Option Nat} {ν : Nat → Value} (hr : RelB P X t a w β ν) {x : Operand} {o1 u e sz by_ l : Nat} {α : Type} {f : α → D} {z : α} {xs : List α} (hk : ∀ k ∈ o1 :: kx x, t k = s k) (hx : Sees (ev s x) (.sub o1 u sz l)) (hb : s o1 = .arr u e sz by_ f z xs) :
    ∃ g cap cur cells, ν o1 = .slice (some ⟨g, 0, none⟩) xs.length cap ∧ β o1 = some g ∧ a.eval x = .slice (some ⟨g, l * sz, none⟩) (xs.length - l) (cap - l) ∧ w.heap[g]? = some (.cells cur e (0, 0)) ∧ w.ownsRow 0 e sz (ν o1) xs.length cells ∧ cur.toList.take (xs.length * sz) = cells ∧ cur.size = cap * sz ∧ xs.length ≤ cap ∧ cap ≤ maxLen ∧ 0 < sz ∧
      xs.length * by_ ≤ 140737488355328 ∧ xs.length ≤ 140737488355328 ∧ (∀ c ∈ cells, c.oneCell' = true) ∧ ∀ i (h : i < xs.length), R P (f xs[i]) (okAt X t β w) w ((cells.drop (i * sz)).take sz) := by
  obtain ⟨v, k, e1, h1, h2, h3⟩ := hr.sees (fun k hk' => hk k (by simp [hk'])) hx
  simp only [List.cons.injEq, and_true] at e1
  have hob : t o1 = .arr u e sz by_ f z xs := by rw [hk o1 (by simp), hb]
  rw [hob] at h1
  simp only [ver, Option.some.injEq] at h1
  obtain ⟨g, l', c', h4, h5⟩ := h3 h1 (by rw [hob]; rfl)
  have ho := hr.obj o1
  rw [hob] at ho
  obtain ⟨cells, g1, g2, g3, g4, g4', g5, g6⟩ := ho
  rcases g1.2 with ⟨h6, _⟩ | ⟨g', cap, cur, hv, _, hg, hnc, hcm, hcs, htake⟩
  · rw [h4] at h6; cases h6
  · rw [hv] at h4
    simp only [Value.slice.injEq, Option.some.injEq, Addr.mk.injEq, and_true] at h4
    obtain ⟨rfl, rfl, rfl⟩ := h4
    exact ⟨g', cap, cur, cells, hv, by rw [g2, hv]; rfl, by rw [e1, h5], hg, g1, htake, hcs, hnc, hcm, g3, g4, g4', g5, g6⟩

theorem p_lenS {x : Operand} {T e' o1 u e sz by_ l : Nat} {α : Type} {f : α → D} {z : α} {xs : List α} (ho : o.op = .call { callee := .builtin .len, args := #[x], argTypes := #[T] }) (hT : IsSlice P T e') (hx : Sees (ev s x) (.sub o1 u sz l)) (hb : s o1 = .arr u e sz by_ f z xs) :
    PStep P o (o1 :: kx x) s (.val (.int .i64 ((xs.length - l : Nat) : Int))) := by
  intro X t a w β ν hk hr
  obtain ⟨g, cap, cur, cells, q1, q2, q3, _⟩ := hr.atSub hk hx hb
  refine ⟨rfl, .int .i64 ((xs.length - l : Nat) : Int), ?_, mk_int _ _ _⟩
  have hT' : P.underlying T = some (.slice e') := hT
  simp [execOp, ho, resolve, invoke, builtin, Builtin.len_, run_underlying' hT', q3, goInt]

theorem p_indexS {x i : Operand} {T o1 u e sz by_ l m : Nat} {k : IntKind} {α : Type} {f : α → D} {z : α} {xs : List α} (ho : o.op = .indexAddr T x i) (hT : IsSlice P T e) (hs : Size P e sz) (hx : Sees (ev s x) (.sub o1 u sz l)) (hb : s o1 = .arr u e sz by_ f z xs)
    (hi : Sees (ev s i) (.val (.int k (m : Int)))) (h1 : l + m < xs.length) : PStep P o ((o1 :: kx x) ++ kx i) s (.elt o1 u sz (l + m)) := by
  intro X t a w β ν hk hr
  obtain ⟨g, cap, cur, cells, q1, q2, q3, _⟩ := hr.atSub (kl hk) hx hb
  refine ⟨rfl, .pointer (some ⟨g, (l + m) * sz, none⟩), ?_, ?_⟩
  · have hT' : P.underlying T = some (.slice e) := hT
    have hii := hr.int (kr hk) hi
    have h2 : m < xs.length - l := by omega
    have e1 : l * sz + m * sz = (l + m) * sz := by rw [Nat.add_mul]
    simp [execOp, ho, Instr.indexAt, hii, q3, asIntOf, run_underlying' hT', run_sizeOf hs, h2, Addr.add_none, Addr.add, e1]
    intro h; rw [← e1, h]; rfl
  · have hto : t o1 = .arr u e sz by_ f z xs := by rw [hk o1 (by simp), hb]
    exact ⟨_, u, rfl, by rw [hto]; rfl, Nat.le_refl _, fun _ _ => ⟨g, q2, rfl⟩⟩

theorem p_indexSZ {x i : Operand} {T o1 u e sz by_ l : Nat} {k : IntKind} {m : Int} {α : Type} {f : α → D} {z : α} {xs : List α} (ho : o.op = .indexAddr T x i) (hT : IsSlice P T e) (hs : Size P e sz) (hx : Sees (ev s x) (.sub o1 u sz l)) (hb : s o1 = .arr u e sz by_ f z xs)
    (hi : Sees (ev s i) (.val (.int k m))) (h0 : 0 ≤ m) (h1 : (l : Int) + m < xs.length) : PStep P o ((o1 :: kx x) ++ kx i) s (.elt o1 u sz (l + m.toNat)) := by
  obtain ⟨j, rfl⟩ := Int.eq_ofNat_of_zero_le h0
  have := p_indexS (P := P) (m := j) ho hT hs hx hb hi (by omega)
  simpa using this

/-- 'clear(x)', x a row from an element on. -/
theorem r_clearS {x : Operand} {T o1 u e by_ l : Nat} {zv : Value} {α : Type} {f : α → D} {z : α} {xs : List α} (ho : o.op = .call { callee := .builtin .clear, args := #[x], argTypes := #[T] }) (hT : IsSlice P T e) (hz : Zero P e zv) (hz1 : zv.oneCell' = true) (hzc : zv.cells = #[zv]) (hR : ∀ ok w, R P (f z) ok w [zv])
    (hd : o.dst = none) (hg : o.guard = none) (hob : Nat.blt 9999 o1 = true) (hx : Sees (ev s x) (.sub o1 u 1 l)) (hb : s o1 = .arr u e 1 by_ f z xs) (hl : l < xs.length) :
    LStep P n ops o (o1 :: kx x, [o1]) s (upd s o1 (.arr u e 1 by_ f z (xs.take l ++ List.replicate (xs.length - l) z))) := by
  refine ⟨upd_off, fun X t a w hX hk hr Q => ?_⟩
  obtain ⟨β, ν, hr⟩ := hr
  obtain ⟨g, cap, cur, cells, q1, q2, q3, q4, q5, q6, q7, q8, q9, q10, q11, q12, q13, q14⟩ := hr.atSub hk hx hb
  have hzs : (Builtin.zeroCells zv.cells (xs.length - l)).toList = List.replicate (xs.length - l) zv := by
    rw [hzc]
    simp [Builtin.zeroCells]
    apply List.ext_getElem
    · simp
    · intro i h1 h2
      simp [Nat.mod_one]
  simp only [Nat.mul_one] at q3 q6 q7
  have hrun : (execOp a.eval o).run P w = .ok (.value (.tuple #[])) (w.setRow g (cur.toList.take l ++ List.replicate (xs.length - l) zv ++ cur.toList.drop (l + (xs.length - l))).toArray) := by
    have hst := run_storeCells_at (P := P) g l e (List.replicate (xs.length - l) zv) 0 cur w q4 (by simp; omega) (fun v hv => by rw [List.eq_of_mem_replicate hv]; exact hz1)
    simp only [Nat.add_zero, List.length_replicate] at hst
    have hT' : P.underlying T = some (.slice e) := hT
    have hz' : ∀ w, (zeroValue e).run P w = .ok zv w := fun w => run_zero hz w
    obtain ⟨q, hq⟩ : ∃ q, xs.length - l = q + 1 := ⟨xs.length - l - 1, by omega⟩
    rw [hq] at hst hzs q3 ⊢
    simp [execOp, ho, resolve, invoke, builtin, Builtin.clear_, run_underlying' hT', q3, hz', hzs, hst]
  refine opWp_run (by simp [Region.wanted, hg]) hrun ?_
  rw [ovr_one, hd]
  show Rel P X _ a _
  have hob' := blt_lt hob
  have hlc : cells.length = xs.length := by have := q5.1; omega
  have hcells : (cur.toList.take l ++ List.replicate (xs.length - l) zv ++ cur.toList.drop (l + (xs.length - l))).toArray.toList.take (xs.length * 1) = cells.take l ++ List.replicate (xs.length - l) zv := by
    rw [Nat.mul_one, ← q6, List.take_take, Nat.min_eq_left (by omega)]
    show List.take xs.length ((_ ++ _) ++ _) = _
    rw [List.take_append_of_le_length (by simp; omega)]
    refine List.take_of_length_le (by simp; omega)
  refine ⟨β, ν, hr.setRow (by omega) (by rw [hk o1 (by simp), hb]) q1 q2 q4 (by simp; omega) q8 q9 q10 q11 q12 (by simp; omega) hcells ?_ ?_⟩
  · intro c hc
    rcases List.mem_append.1 hc with h | h
    · exact q13 c (List.mem_of_mem_take h)
    · rw [List.eq_of_mem_replicate h]; exact hz1
  · intro i hi
    have hi' : i < xs.length := by simp at hi; omega
    simp only [Nat.mul_one]
    by_cases h : i < l
    · have e1 : (xs.take l ++ List.replicate (xs.length - l) z)[i] = xs[i] := by
        rw [List.getElem_append_left (by simp; omega)]
        simp
      have e2 : ((cells.take l ++ List.replicate (xs.length - l) zv).drop i).take 1 = (cells.drop i).take 1 := by
        rw [List.drop_append_of_le_length (by simp; omega), List.take_append_of_le_length (by simp; omega), List.drop_take, List.take_take, Nat.min_eq_left (by omega)]
      rw [e1, e2]
      have := q14 i hi'
      simpa using this
    · have e1 : (xs.take l ++ List.replicate (xs.length - l) z)[i] = z := by
        rw [List.getElem_append_right (by simp; omega)]
        simp
      have e2 : ((cells.take l ++ List.replicate (xs.length - l) zv).drop i).take 1 = [zv] := by
        rw [List.drop_append, List.drop_of_length_le (by simp; omega), List.nil_append, List.drop_replicate, List.take_replicate]
        have : min 1 (xs.length - l - (i - (cells.take l).length)) = 1 := by simp; omega
        rw [this]
        rfl
      rw [e1, e2]
      exact hR _ _

/-- 'x[:len(x):len(x)]' of a slice that is read. -/
theorem p_clip {x hi mx : Operand} {T e sz : Nat} {α : Type} {f : α → D} {z : α} {xs : List α} (ho : o.op = .slice T x none (some hi) (some mx)) (hT : IsSlice P T e) (hs : Size P e sz)
    (hx : Sees (ev s x) (.val (.list sz f z xs))) (h1 : Sees (ev s hi) (.val (.int .i64 xs.length))) (h2 : Sees (ev s mx) (.val (.int .i64 xs.length))) : PStep P o (kx x ++ (kx hi ++ kx mx)) s (.val (.list sz f z xs)) := by
  intro X t a w β ν hk hr
  obtain ⟨ad, cap, hv, hcap, hmax, hlim, hc⟩ := vr_list (hr.sees (kl hk) hx)
  have e1 := hr.int (fun k hk' => hk k (by simp [hk'])) h1
  have e2 := hr.int (fun k hk' => hk k (by simp [hk'])) h2
  refine ⟨rfl, .slice ad xs.length xs.length, ?_, ?_⟩
  · have hT' : P.underlying T = some (.slice e) := hT
    cases ad <;> simp [execOp, ho, Instr.sliceAt, Instr.slice, Instr.sliceBounds, Instr.sliceBound, asIntOf, run_underlying' hT', run_sizeOf hs, hv, e1, e2, hcap, Addr.add]
  · refine ⟨_, rfl, rfl, _, xs.length, rfl, Nat.le_refl _, by omega, by omega, fun i hi => hc i hi⟩

theorem zr_list {sz : Nat} {α : Type} {f : α → D} {z : α} (ok : Nat → Prop) (w : World) : R P (.list sz f z []) ok w [.slice none 0 0] := ⟨none, 0, rfl, Nat.le_refl _, Nat.zero_le _, Nat.zero_le _, fun i hi => absurd hi (Nat.not_lt_zero _)⟩
end

end Go.Um
