/- The forms of a judge's data; a struct out of a struct and a row of one's own. No condition. -/
import Derived.Test.YtfjafkocejoigaaGreatStp
import Derived.Test.YtfjafkocejoigaaGreatBD
import Derived.Test.YtfjafkocejoigaaGreatBC
namespace Go.Um
open Go Go.RowKit
abbrev dAtm (k : Int) : D := .agg (.cons (di k) (.cons (di 0) (.cons (di 0) (.cons (ints []) (.cons (di 0) (.cons (di 0) .nil))))))
abbrev atms (l : List Int) : D := .list 6 dAtm 0 l
abbrev dTrm (p : Int × List Int) : D := .agg (.cons (di p.1) (.cons (ints p.2) .nil))
abbrev trms (l : List (Int × List Int)) : D := .list 2 dTrm (0, []) l
abbrev frm (l : List Int) (ls : List (List Int)) : D := .agg (.cons (trms []) (.cons (bools []) (.cons (atms l) (.cons (intss ls) .nil))))
section
variable {P : Program} {n : Nat} {ops : Array Oper} {s : St} {o : Oper}
theorem p_build41 {T : TypeId} {x y : Operand} {z : Value} {a1 a2 a3 a4 : D} {o1 u e sz by_ : Nat} {α : Type} {f : α → D} {w : α} {xs : List α} (ho : o.op = .build T #[(0, x), (1, y)]) (hp : Places P T [(0, 4), (4, 1)]) (hz : Zero P T z) (hzl : z.cells.size = 5)
    (hx : Sees (ev s x) (.val (.agg (.cons a1 (.cons a2 (.cons a3 (.cons a4 .nil))))))) (h1 : a1.one = true) (h2 : a2.one = true) (h3 : a3.one = true) (h4 : a4.one = true) (hy : Sees (ev s y) (.row o1 u)) (hb : s o1 = .arr u e sz by_ f w xs) :
    PStep P o (kx x ++ (kx y ++ [o1])) s (.sv (.ccons (.val a1) (.ccons (.val a2) (.ccons (.val a3) (.ccons (.val a4) (.ccons (.row o1 u) .cnil)))))) := by
  intro X t a w β ν hk hr
  obtain ⟨v, e1, hv, v1, q1, f1, g1, k1, v2, q2, f2, g2, k2, v3, q3, f3, g3, k3, v4, q4, f4, g4, k4, f5⟩ := hr.sees (kl hk) hx
  have hyv := hr.sees (kl (kr hk)) hy
  have hone := oneAt_row (P := P) (s := s) hb X t a w β ν (a.eval y) (fun k hk' => hk k (by simp at hk'; simp [hk'])) hr hyv
  simp only [List.cons.injEq, and_true] at e1
  have f5' : q4 = [] := f5
  subst e1 f2 f3 f4 f5'
  have hcx : (a.eval x).cells = #[v1, v2, v3, v4] := by rw [← Array.toList_inj]; exact f1
  have hcy : (a.eval y).cells = #[a.eval y] := by
    cases h : a.eval y <;> first | rfl | (rw [h] at hone; cases hone)
  have o1' := RV_one h1 ⟨g1, k1⟩
  have o2' := RV_one h2 ⟨g2, k2⟩
  have o3' := RV_one h3 ⟨g3, k3⟩
  have o4' := RV_one h4 ⟨g4, k4⟩
  refine ⟨rfl, .agg #[v1, v2, v3, v4, a.eval y], ?_, ⟨_, rfl, ?_, v1, _, rfl, ⟨v1, rfl, g1, k1⟩, v2, _, rfl, ⟨v2, rfl, g2, k2⟩, v3, _, rfl, ⟨v3, rfl, g3, k3⟩, v4, _, rfl, ⟨v4, rfl, g4, k4⟩, a.eval y, _, rfl, hyv, rfl⟩⟩
  · have hb : P.built T (#[(0, a.eval x), (1, a.eval y)] : Array (Nat × Value)).toList = some #[v1, v2, v3, v4, a.eval y] := by
      unfold Places at hp
      unfold Zero at hz
      obtain ⟨d, p1, p2⟩ := Option.bind_eq_some_iff.1 hp
      obtain ⟨i, p3, p4⟩ := Option.bind_eq_some_iff.1 hz
      cases d <;> simp at p2
      unfold Program.built
      simp only [p1, p3, p4, p2]
      obtain ⟨c1, c2, c3, c4, c5, hc⟩ : ∃ c1 c2 c3 c4 c5, z.cells = #[c1, c2, c3, c4, c5] := by
        rcases hzc : z.cells with ⟨l⟩
        rw [hzc] at hzl
        match l, hzl with
        | [c1, c2, c3, c4, c5], _ => exact ⟨c1, c2, c3, c4, c5, rfl⟩
      simp [Instr.fill, hcx, hcy, hc]
    have := run_build (P := P) w T #[(0, a.eval x), (1, a.eval y)] #[v1, v2, v3, v4, a.eval y] hb
    simp [execOp, ho, this]
  · intro q hq
    simp at hq
    rcases hq with rfl | rfl | rfl | rfl | rfl
    · exact o1'.2
    · exact o2'.2
    · exact o3'.2
    · exact o4'.2
    · exact hone
end
end Go.Um
