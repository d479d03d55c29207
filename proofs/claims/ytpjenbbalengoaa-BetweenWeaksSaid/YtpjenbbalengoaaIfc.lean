/- Values behind an interface, and calls of their methods. No condition. -/
import Derived.Test.YtpjenbbalengoaaBB
namespace Go.Um
open Go Go.RowKit

/-- The method of that name of values of type T is function F, handed the value as it is. -/
def IsMeth (P : Program) (T : TypeId) (name : String) (F : FuncId) : Prop := ∀ recv w, (Go.method (P.types.size + Made.depth) T recv name).run P w = .ok (F, recv) w

/-- No nil pointer stands in the way to the method of that name of values of type T. -/
def NotAhead (P : Program) (T : TypeId) (name : String) : Prop := ∀ recv w, (Go.nilAhead (P.types.size + Made.depth) T recv name).run P w = .ok (some false) w

theorem Sees.snd {x y : AV} {v : Value} (e : x = .both v y) : Sees x y := by
  subst e
  intro P ok w s β ν v' h
  exact h.2
/-- A contract whose argument's value may be named. -/
theorem Spec.named {P : Program} {f : FuncId} {x y z u : AV} {r : D} (h : ∀ v, Spec P f [x, y, z, .both v u] r) : Spec P f [x, y, z, u] r := by
  intro w ok vs hok hargs
  obtain ⟨v1, r1, rfl, h1, v2, r2, rfl, h2, v3, r3, rfl, h3, v4, r4, rfl, h4, h5⟩ := hargs
  exact h v4 w ok _ hok ⟨v1, _, rfl, h1, v2, _, rfl, h2, v3, _, rfl, h3, v4, _, rfl, ⟨rfl, h4⟩, h5⟩

section
variable {P : Program} {s : St} {o : Oper}
/-- A method's value, of a value at hand. -/
theorem p_makeMeth {x : Operand} {name : String} {v : Value} {y : AV} (ho : o.op = .makeFunc (.method name) #[x] #[]) (hx : ev s x = .both v y) : PStep P o (kx x) s (.both (.func (.method name) #[v] #[]) .any) := by
  intro X t a w β ν hk hr
  have h := (hr.sees hk (Sees.of hx)).1
  simp only [List.cons.injEq, and_true] at h
  exact ⟨rfl, .func (.method name) #[a.eval x] #[], by simp [execOp, ho, Instr.makeFunc], by rw [h], _, rfl⟩
theorem p_nilMeth {x z : Operand} {name : String} {v : Value} {y : AV} {T : TypeId} {d : D} (ho : o.op = .nilCheck x) (hn : NotAhead P T name) (hx : ev s x = .both (.func (.method name) #[v] #[]) y) (hz : ev s z = .both v (.val (.ifc T d))) : PStep P o (kx x ++ kx z) s .any := by
  intro X t a w β ν hk hr
  have h := (hr.sees (kl hk) (Sees.of hx)).1
  simp only [List.cons.injEq, and_true] at h
  obtain ⟨u, e, h1, h2⟩ := hr.sees (kr hk) (Sees.snd hz)
  have h0 := (hr.sees (kr hk) (Sees.of hz)).1
  simp only [List.cons.injEq, and_true] at e h0
  have h3 : ∃ v', v = .iface T v' := by
    rw [← h0, e]
    cases u with
    | agg cs => cases h1
    | iface T' v' =>
      obtain ⟨v, e2, h4, h5⟩ := h2
      simp [Value.cells] at e2
      obtain ⟨rfl, rfl⟩ := e2
      exact ⟨_, rfl⟩
    | _ =>
      obtain ⟨v, e2, _⟩ := h2
      simp [Value.cells] at e2
  obtain ⟨v', rfl⟩ := h3
  refine ⟨rfl, .func (.method name) #[.iface T v'] #[], ?_, _, rfl⟩
  have h5 := hn v' w
  simp [execOp, ho, h, h5]
theorem p_mkIfc {x : Operand} {T : TypeId} {fs : Array Field} {d : D} (ho : o.op = .makeInterface T x) (hT : P.underlying T = some (.struct fs)) (hx : Sees (ev s x) (.val d)) : PStep P o (kx x) s (.val (.ifc T d)) := by
  intro X t a w β ν hk hr
  obtain ⟨v, e, h1, h2⟩ := hr.sees hk hx
  simp only [List.cons.injEq, and_true] at e
  refine ⟨rfl, .iface T (a.eval x), ?_, ⟨_, rfl, rfl, a.eval x, rfl, by rw [e]; exact h1, by rw [e]; exact h2⟩⟩
  simp [execOp, ho, Instr.makeInterface, run_underlying' hT, go_sem]

theorem run_invoke {ρ : Operand → Value} {x : Operand} {name : String} {T F : Nat} {v : Value} {xs : List Operand} {Ts : Array TypeId} {w : World} (ho : o.op = .call { callee := .invoke x name, args := xs.toArray, argTypes := Ts }) (hm : IsMeth P T name F) (hf : IsFn P F) (e : ρ x = .iface T v) : (execOp ρ o).run P w = .ok (.enter F (v :: xs.map ρ).toArray) w := by
  have h6 := hm v w
  have h7 : (#[Value.iface T v] ++ (xs.map ρ).toArray).extract 1 (#[Value.iface T v] ++ (xs.map ρ).toArray).size = (xs.map ρ).toArray := by
    simp
    exact List.take_of_length_le (by simp)
  have h8 : (callMethod (.iface T v) name (xs.map ρ).toArray).run P w = .ok (.enter F (v :: xs.map ρ).toArray) w := by
    simp only [callMethod, Sem.run_bind, run_program, Result.andThen_ok, h6]
    simp [run_callFunc hf]
  have h9 : (invoke (.fn (.method name) #[]) (#[Value.iface T v] ++ (xs.map ρ).toArray)).run P w = .ok (.enter F (v :: xs.map ρ).toArray) w := by
    simp only [invoke, h7]
    simpa using h8
  simp only [execOp, ho, resolve, e, List.map_toArray, Sem.run_bind]
  simpa [go_sem] using h9
theorem c_invoke {x : Operand} {name : String} {T F : Nat} {d : D} {xs : List Operand} {Ts : Array TypeId} {ys : List AV} {r : D} (ho : o.op = .call { callee := .invoke x name, args := xs.toArray, argTypes := Ts }) (hm : IsMeth P T name F) (hf : IsFn P F) (hx : Sees (ev s x) (.val (.ifc T d))) (ha : PArgs s xs ys) (hs : Spec P F (.val d :: ys) r) :
    CStep P o (kx x ++ kxl xs) s (.val r) := by
  intro X t a w β ν hk hr
  refine ⟨rfl, fun Q K' hK => ?_⟩
  obtain ⟨u, e, h1, h2⟩ := hr.sees (kl hk) hx
  simp only [List.cons.injEq, and_true] at e
  have h3 : ∃ v, u = .iface T v ∧ vAgg v = d.isAgg ∧ R P d (okAt X t β w) w v.cells.toList := by
    cases u with
    | agg cs => cases h1
    | iface T' v' =>
      obtain ⟨v, e2, h4, h5⟩ := h2
      simp [Value.cells] at e2
      obtain ⟨rfl, rfl⟩ := e2
      exact ⟨_, rfl, h4, h5⟩
    | _ =>
      obtain ⟨v, e2, _⟩ := h2
      simp [Value.cells] at e2
  obtain ⟨v, rfl, h4, h5⟩ := h3
  have hargs := hr.args xs ys (kr hk) ha
  have hc := hs w (okAt X t β w) (v :: xs.map a.eval) (fun b hb => hb.2.1) ⟨v, _, rfl, ⟨v, rfl, h4, h5⟩, hargs⟩
  have hrun : (execOp a.eval o).run P w = .ok (.enter F (v :: xs.map a.eval).toArray) w := run_invoke ho hm hf e
  unfold Oper.wp
  rw [hrun]
  refine hc.mono ?_
  rintro e' w' ⟨z, rfl, hv, hbel⟩
  refine hK z w' (hr.below hbel) ⟨z, rfl, RV_mono (fun b hb => ⟨?_, rfl⟩) (Nat.le_refl _) hv⟩
  rcases hb with hb | hb
  · exact ⟨hb.1, Nat.lt_of_lt_of_le hb.2.1 hbel.size, hb.2.2⟩
  · exact ⟨.inr (.inl (Nat.le_trans hr.size hb.1)), hb.2, fun o' hl h => by have := (hr.own o' _ hl h).2; omega⟩
/-- A struct of two structs of two cells. -/
theorem p_build22 {T : TypeId} {x y : Operand} {z : Value} {a1 a2 b1 b2 : D} (ho : o.op = .build T #[(0, x), (1, y)]) (hp : Places P T [(0, 2), (2, 2)]) (hz : Zero P T z) (hzl : z.cells.size = 4) (hx : Sees (ev s x) (.val (.agg (.cons a1 (.cons a2 .nil))))) (hy : Sees (ev s y) (.val (.agg (.cons b1 (.cons b2 .nil))))) :
    PStep P o (kx x ++ kx y) s (.val (.agg (.cons a1 (.cons a2 (.cons b1 (.cons b2 .nil)))))) := by
  intro X t a w β ν hk hr
  obtain ⟨v, e1, h1, v1, q1, f1, g1, k1, v2, q2, f2, g2, k2, f3⟩ := hr.sees (kl hk) hx
  obtain ⟨u, e2, h2, u1, r1, d1, l1, m1, u2, r2, d2, l2, m2, d3⟩ := hr.sees (kr hk) hy
  simp only [List.cons.injEq, and_true] at e1 e2
  have f3' : q2 = [] := f3
  have d3' : r2 = [] := d3
  subst e1 e2 f2 d2 f3' d3'
  have hcx : (a.eval x).cells = #[v1, v2] := by rw [← Array.toList_inj]; exact f1
  have hcy : (a.eval y).cells = #[u1, u2] := by rw [← Array.toList_inj]; exact d1
  refine ⟨rfl, .agg #[v1, v2, u1, u2], ?_, ⟨_, rfl, rfl, v1, _, rfl, g1, k1, v2, _, rfl, g2, k2, u1, _, rfl, l1, m1, u2, _, rfl, l2, m2, rfl⟩⟩
  have hb : P.built T (#[(0, a.eval x), (1, a.eval y)] : Array (Nat × Value)).toList = some #[v1, v2, u1, u2] := by
    unfold Places at hp
    unfold Zero at hz
    obtain ⟨d, p1, p2⟩ := Option.bind_eq_some_iff.1 hp
    obtain ⟨i, p3, p4⟩ := Option.bind_eq_some_iff.1 hz
    cases d <;> simp at p2
    unfold Program.built
    simp only [p1, p3, p4, p2]
    obtain ⟨c1, c2, c3, c4, hc⟩ : ∃ c1 c2 c3 c4, z.cells = #[c1, c2, c3, c4] := by
      rcases hzc : z.cells with ⟨l⟩
      rw [hzc] at hzl
      match l, hzl with
      | [c1, c2, c3, c4], _ => exact ⟨c1, c2, c3, c4, rfl⟩
    simp [Instr.fill, hcx, hcy, hc]
  have := run_build (P := P) w T #[(0, a.eval x), (1, a.eval y)] #[v1, v2, u1, u2] hb
  simp [execOp, ho, this]
end
end Go.Um
