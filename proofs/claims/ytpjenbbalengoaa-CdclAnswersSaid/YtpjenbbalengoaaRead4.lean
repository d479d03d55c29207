/- Reading a struct of four cells. No condition. -/
import Derived.Test.YtpjenbbalengoaaRead
namespace Go.Um
open Go Go.RowKit
variable {P : Program} {T : TypeId}

theorem form_struct4 {F1 F2 F3 F4 : Field} {α β γ δ : Type} {f1 : α → D} {f2 : β → D} {f3 : γ → D} {f4 : δ → D} {G1 : α → Prop} {G2 : β → Prop} {G3 : γ → Prop} {G4 : δ → Prop} (hT : P.underlying T = some (.struct #[F1, F2, F3, F4])) (hs : Size P T 4) (o1 : F1.offset = 0) (o2 : F2.offset = 1) (o3 : F3.offset = 2) (o4 : F4.offset = 3)
    (s1 : Size P F1.type 1) (s2 : Size P F2.type 1) (s3 : Size P F3.type 1) (s4 : Size P F4.type 1)
    (h1 : Form P F1.type 1 f1 G1) (h2 : Form P F2.type 1 f2 G2) (h3 : Form P F3.type 1 f3 G3) (h4 : Form P F4.type 1 f4 G4) (k1 : ∀ x, (f1 x).one = true) (k2 : ∀ x, (f2 x).one = true) (k3 : ∀ x, (f3 x).one = true) (k4 : ∀ x, (f4 x).one = true) :
    Form P T 4 (fun p : α × β × γ × δ => D.agg (.cons (f1 p.1) (.cons (f2 p.2.1) (.cons (f3 p.2.2.1) (.cons (f4 p.2.2.2) .nil))))) (fun p => G1 p.1 ∧ G2 p.2.1 ∧ G3 p.2.2.1 ∧ G4 p.2.2.2) := by
  intro H enc w spare held fuel cs d ps h hw
  obtain ⟨fuel', xs, hlen, rfl, hm⟩ := trod_struct hT h
  have c0 : P.cellsOf T = 4 := by unfold Size at hs; simp [Program.cellsOf, hs]
  have c1 : P.cellsOf F1.type = 1 := by unfold Size at s1; simp [Program.cellsOf, s1]
  have c2 : P.cellsOf F2.type = 1 := by unfold Size at s2; simp [Program.cellsOf, s2]
  have c3 : P.cellsOf F3.type = 1 := by unfold Size at s3; simp [Program.cellsOf, s3]
  have c4 : P.cellsOf F4.type = 1 := by unfold Size at s4; simp [Program.cellsOf, s4]
  rw [c0] at hlen
  match cs, hlen with
  | [a, b, c, d], _ =>
    obtain ⟨hl, hg⟩ := mapM_some hm
    match xs, hl with
    | [x, y, z, u], _ =>
      have e1 := hg 0 (by simp) (by simp)
      have e2 := hg 1 (by simp) (by simp)
      have e3 := hg 2 (by simp) (by simp)
      have e4 := hg 3 (by simp) (by simp)
      simp [o1, o2, o3, o4, c1, c2, c3, c4] at e1 e2 e3 e4
      simp only [DataW.weights, hT, List.map_cons, List.map_nil, DataW.weightsEach, List.append_nil, List.all_append, Bool.and_eq_true] at hw
      obtain ⟨p, q1, q2, q3, q4⟩ := h1 enc w spare held fuel' [a] _ _ e1 hw.1
      obtain ⟨p', r1, r2, r3, r4⟩ := h2 enc w spare held fuel' [b] _ _ e2 hw.2.1
      obtain ⟨p'', t1, t2, t3, t4⟩ := h3 enc w spare held fuel' [c] _ _ e3 hw.2.2.1
      obtain ⟨p4, v1, v2, v3, v4⟩ := h4 enc w spare held fuel' [d] _ _ e4 hw.2.2.2
      have m1 := one_RV (k1 p) q2 (q4 a (by simp))
      have m2 := one_RV (k2 p') r2 (r4 b (by simp))
      have m3 := one_RV (k3 p'') t2 (t4 c (by simp))
      have m4 := one_RV (k4 p4) v2 (v4 d (by simp))
      refine ⟨(p, p', p'', p4), ⟨q1, r1, t1, v1⟩, ⟨a, [b, c, d], rfl, m1.1, m1.2, b, [c, d], rfl, m2.1, m2.2, c, [d], rfl, m3.1, m3.2, d, [], rfl, m4.1, m4.2, rfl⟩, rfl, ?_⟩
      intro c' hc
      simp at hc
      rcases hc with rfl | rfl | rfl | rfl
      · exact q4 _ (by simp)
      · exact r4 _ (by simp)
      · exact t4 _ (by simp)
      · exact v4 _ (by simp)
end Go.Um
