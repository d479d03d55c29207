/- 'slices.Grow' of the nil slice, by the kit's contract, as a contract of a new row. No condition. -/
import Derived.Test.YtfjafkocejoigaaGreatBB
import Derived.Test.YtfjafkocejoigaaGreatRange
import Derived.Shelf.Spec.SlicesGrow
namespace Go.Um
open Go Go.RowKit

theorem growNil_spec {P : Program} {ρ : Go.Shelf.Ren} (L : Go.Proofs.Lays8.n4 P ρ) {e F sz by_ : Nat} {zv : Value} (he : ρ.t 25 = e) (hF : ρ.f 4 = F) (hs : Size P e sz) (hby : Bytes P e by_) (hz : Zero P e zv) (hzs : zv.cells.size = sz) (h0 : Nat.blt 0 sz = true) {n : Nat} (hb : n * by_ ≤ 140737488355328)
    (hn : n ≤ 140737488355328) {α : Type} {f : α → D} : SpecN P F [.emp, iv n] e sz by_ f ([] : List α) := by
  subst he hF
  intro w ok vs hok hargs
  obtain ⟨v, vs', rfl, hv, v2, vs2, rfl, hv2, rfl⟩ := hargs
  have h0' := blt_lt h0
  obtain rfl : v = .slice none 0 0 := by simpa [ARel, VR] using hv
  obtain ⟨v3, e3, hv3⟩ := hv2
  simp only [List.cons.injEq, and_true] at e3
  subst e3
  obtain rfl := val_one.1 _ _ hv3
  by_cases h : n = 0
  · subst h
    refine (Go.Proofs.Any8.slices_Grow_room L none 0 0 0 w (Nat.le_refl _) (by omega) (by omega) (Nat.le_refl _)).mono ?_
    rintro en w' ⟨rfl, rfl⟩
    exact ⟨_, rfl, ⟨[], World.ownsRow_nil _ 0 _ sz, (fun b hb => nomatch hb), h0', by simp, by simp, by simp, fun i hi => absurd hi (Nat.not_lt_zero i)⟩, Belw.refl _ _⟩
  · unfold Size at hs
    unfold Bytes at hby
    unfold Zero at hz
    obtain ⟨inf, i1, i2⟩ := Option.map_eq_some_iff.1 hs
    rw [i1] at hby hz
    simp only [Option.map_some, Option.some.injEq, Option.bind_some] at hby hz
    refine (Go.Proofs.Any8.slices_Grow_grow L inf zv i1 hz (by omega) none 0 0 n [] w (Nat.le_refl _) (by omega) (by rw [hby, Nat.zero_add]; exact hb) (by omega) (by simp) (fun _ => rfl) (fun a h => nomatch h)).mono ?_
    rintro en w' ⟨rfl, rfl⟩
    have hge := grownCap_ge w (0 + n) 0 (ρ.t 25)
    have hle := grownCap_le_maxLen w (0 + n) 0 (ρ.t 25) (by simp only [maxLen]; omega)
    generalize grownCap w (0 + n) 0 (ρ.t 25) = c at hge hle
    have hsz : ∀ m, (Builtin.zeroCells zv.cells m).size = m * sz := fun m => by simp [Builtin.zeroCells, hzs]
    have hown := World.ownsRow_made (w := w.drew) (base := 0) (e := ρ.t 25) (size := sz) ([].toArray ++ Builtin.zeroCells zv.cells (0 + n - 0) ++ Builtin.zeroCells zv.cells (c - (0 + n))) c (Nat.zero_le _) hle (by
      rw [Array.size_append, Array.size_append, hsz, hsz]
      show 0 + _ + _ = _
      rw [Nat.zero_add, ← Nat.add_mul]
      congr 1
      omega)
    refine ⟨_, rfl, ⟨[], hown, fun b hb => ?_, h0', by simp, by simp, by simp, fun i hi => absurd hi (Nat.not_lt_zero i)⟩, ⟨⟨rfl, rfl, rfl, ?_, fun k hk => ?_⟩, ?_⟩⟩
    · simp only [Value.ownBlock, Option.some.injEq] at hb
      subst hb
      exact Nat.le_refl _
    · show w.heap.size ≤ (w.heap.push _).size
      simp
    · show (w.heap.push _)[k]? = w.heap[k]?
      rw [Array.getElem?_push, if_neg (by omega)]
    · show w.drawn ≤ w.drawn + 1
      omega

section
variable {P : Program} {n : Nat} {ops : Array Oper} {s : St} {o : Oper}
theorem r_boxR {x : Operand} {d ob o1 u e sz by_ : Nat} {T : TypeId} {α : Type} {f : α → D} {z : α} {xs : List α} (ho : o.op = .box T x) (hx : Sees (ev s x) (.row o1 u)) (hb : s o1 = .arr u e sz by_ f z xs) (hd : o.dst = some d) (hg : o.guard = none) (hob : Nat.blt 9999 ob = true) (hn : Nat.blt d n = true) (h4 : Nat.blt d 10000 = true) :
    LStep P n ops o (ob :: (o1 :: kx x), [d, ob]) s (upd (upd s ob (.box (newVer (s ob)) (.ccons (.row o1 u) .cnil))) d (.ref ob (newVer (s ob)) 0)) := by
  refine newBox (T := T) hd hg hob hn h4 (fun X t a w β ν hk hr => ?_)
  have hv := hr.sees (fun k hk' => hk k (by simp [hk'])) hx
  obtain ⟨cells, q1, _⟩ := hr.atRow hk hx hb
  have hc : (a.eval x).cells = #[a.eval x] ∧ (a.eval x).oneCell' = true := by
    rcases q1.2 with ⟨e1, _⟩ | ⟨g, cap, cur, e1, _⟩ <;> rw [e1] <;> exact ⟨rfl, rfl⟩
  refine ⟨(a.eval x).cells, by simp [execOp, ho, Instr.box, newVar, newRow, newObj, Sem.run], ?_, ?_⟩
  · rw [hc.1]
    intro v hv'
    simp at hv'
    rw [hv']
    exact hc.2
  · rw [hc.1]
    exact ⟨_, [], rfl, hv, rfl⟩
end
end Go.Um
