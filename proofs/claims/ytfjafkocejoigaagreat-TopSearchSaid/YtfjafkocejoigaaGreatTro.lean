/- A trail of one's own, as a result in new memory. No condition. -/
import Derived.Test.YtfjafkocejoigaaGreatBD
namespace Go.Um
open Go Go.RowKit

section
variable {P : Program} {s : St}
theorem resF_trail {t o1 u o2 o3 o4 u2 u3 u4 e2 e3 b2 b3 : Nat} {c0 : D} {κ α : Type} {kv : κ → Value} {vv : α → Value} {m : List (κ × α)} {L W : List Int} (ht : Nat.blt t 10000 = true) (h : s t = .ref o1 u 0)
    (hb : s o1 = .box u (.ccons (.val c0) (.ccons (.row o2 u2) (.ccons (.row o3 u3) (.ccons (.row o4 u4) .cnil))))) (h2 : s o2 = .arr u2 e2 1 b2 di 0 L) (h3 : s o3 = .arr u3 e3 1 b3 di 0 W) (h4 : s o4 = .mp u4 kv vv m) :
    ResOneF P s (.tmp t) (.ptr (.agg (.cons .any (.cons (ints L) (.cons (ints W) (.cons .any .nil)))))) := by
  intro X a w β ν hbor hr
  have hv := hr.slot t (blt_lt ht)
  rw [h] at hv
  obtain ⟨v, k, e1, g1, g2, g3⟩ := hv
  simp only [List.cons.injEq, and_true] at e1
  rw [hb] at g1 g3
  simp only [ver, Option.some.injEq] at g1
  obtain ⟨b, hb1, hb2⟩ := g3 g1 rfl
  have ho := hr.obj o1
  rw [hb] at ho
  obtain ⟨b', cs, ty, q1, q2, q3, q4⟩ := ho
  obtain rfl : b' = b := by rw [hb1] at q1; exact (Option.some.inj q1).symm
  have hw := hr.own o1 b' (by rw [hb]; rfl) hb1
  have row : ∀ (o u u' e by_ : Nat) (xs : List Int) (v : Value), s o = .arr u e 1 by_ di 0 xs → u' = u → VR P (okAt X s β w) w s β ν (.row o u') [v] → RV P (ints xs) (fun b => X.w0.heap.size ≤ b ∧ b < w.heap.size) w v := by
    rintro o u _ e by_ xs v hs rfl hv
    obtain ⟨v', k, e1, p1, p2, p3⟩ := hv
    simp only [List.cons.injEq, and_true] at e1
    subst e1
    rw [hs] at p1 p3
    simp only [ver, Option.some.injEq] at p1
    have hv2 := p3 p1 rfl
    have ho := hr.obj o
    rw [hs] at ho
    obtain ⟨cells, r1, r2, r2', r3, r3', r5, r6⟩ := ho
    rw [← hv2] at r1 r2
    refine row_reads' (ok := fun _ => False) r1 rfl (fun b hb => hb.elim) (fun b hb' => ?_) r5 r3' (fun i hi => R_flat _ rfl (r6 i hi))
    have hw2 := hr.own o b (by rw [hs]; rfl) (by rw [r2]; exact hb')
    exact ⟨hw2.1.elim id (fun h => absurd h (hbor b)), hw2.2⟩
  obtain ⟨x1, l1, e4, k1, k2⟩ := q4
  obtain ⟨x2, l2, rfl, k3, k4⟩ := k2
  obtain ⟨x3, l3, rfl, k5, k6⟩ := k4
  obtain ⟨x4, l4, rfl, k7, k8⟩ := k6
  have k8 : l4 = [] := k8
  subst k8
  rw [e4] at q3
  refine ⟨a.tmps.getD t undef, rfl, ?_⟩
  rw [e1, hb2]
  have r2 := row o2 u2 u2 e2 b2 L x2 h2 rfl k3
  have r3 := row o3 u3 u3 e3 b3 W x3 h3 rfl k5
  refine ⟨rfl, ⟨b', 0, none⟩, cs.toList, rfl, rfl, ⟨hw.1.elim id (fun h => absurd h (hbor b')), hw.2⟩, by rw [e4]; exact q3, ?_, ?_⟩
  · intro j hj
    simp only [World.cell?, q2]
    simp at hj
    simp [hj]
  · rw [e4]
    have one : ∀ x : Value, x.oneCell' = true → vAgg x = false ∧ x.cells.toList = [x] := fun x hx => by cases x <;> first | exact ⟨rfl, rfl⟩ | cases hx
    have n1 := one x1 (q3 _ (by simp))
    have n4 := one x4 (q3 _ (by simp))
    exact ⟨x1, _, rfl, n1.1, by rw [n1.2]; exact ⟨x1, rfl, q3 _ (by simp)⟩, x2, _, rfl, r2.1, r2.2, x3, _, rfl, r3.1, r3.2, x4, _, rfl, n4.1, by rw [n4.2]; exact ⟨x4, rfl, q3 _ (by simp)⟩, rfl⟩
end
end Go.Um
