/- Short names of steps of the abstract layer. No condition. -/
import Derived.Test.YtfjafkocejoigaaGreatBB
namespace Go.Um
open Go Go.RowKit
def chk (o : Oper) (n : Nat) : Option Nat := match o.guard, o.dst with
  | none, some d => bif Nat.blt d n && Nat.blt d 10000 then some d else none
  | _, _ => none
theorem chk_ok {o : Oper} {n d : Nat} (h : chk o n = some d) : o.dst = some d ∧ o.guard = none ∧ Nat.blt d n = true ∧ Nat.blt d 10000 = true := by
  unfold chk at h
  split at h
  · rename_i e h1 h2
    cases hb : (Nat.blt e n && Nat.blt e 10000) with
    | false => rw [hb] at h; cases h
    | true =>
      rw [hb] at h
      simp only [cond_true, Option.some.injEq] at h
      subst h
      rw [Bool.and_eq_true] at hb
      exact ⟨h2, h1, hb.1, hb.2⟩
  · cases h
section
variable {P : Program} {n : Nat} {ops : Array Oper} {s : St} {o : Oper} {l : List Oper} {d : Nat} {K : List Nat} {y : AV} {Q : St → Prop} {i : Nat} {acc : List (Nat × (List Nat × List Nat))}
theorem Zz {x : AV} : Sees x x := Sees.same
theorem zc (h : CStep P o K s y) (hc : chk o n = some d) (h' : DerS P n ops l (upd s d y) Q) : DerS P n ops (o :: l) s Q := scons (CStep.step h (chk_ok hc).1 (chk_ok hc).2.1 (chk_ok hc).2.2.1 (chk_ok hc).2.2.2) h'
theorem zq (h : PStep P o K s y) (hc : chk o n = some d) (h' : DerS P n ops l (upd s d y) Q) : DerS P n ops (o :: l) s Q := zc (PStep.c h) hc h'
theorem yc (h : CStep P o K s y) (hc : chk o n = some d) (h' : DerD P n ops (i + 1) l ((i, (K, [d])) :: acc) (upd s d y) Q) : DerD P n ops i (o :: l) acc s Q := dcons (CStep.step h (chk_ok hc).1 (chk_ok hc).2.1 (chk_ok hc).2.2.1 (chk_ok hc).2.2.2) h'
theorem yq (h : PStep P o K s y) (hc : chk o n = some d) (h' : DerD P n ops (i + 1) l ((i, (K, [d])) :: acc) (upd s d y) Q) : DerD P n ops i (o :: l) acc s Q := yc (PStep.c h) hc h'
theorem zm1 {x : Operand} {e : D} (ho : o.op = .move x) (hx : ev s x = .val e) (hc : chk o n = some d) (h' : DerS P n ops l (upd s d (.val e)) Q) : DerS P n ops (o :: l) s Q := zq (p_move ho (Sees.of hx) rfl) hc h'
theorem zm2 {x : Operand} {e : D} (ho : o.op = .assign x) (hx : ev s x = .val e) (hc : chk o n = some d) (h' : DerS P n ops l (upd s d (.val e)) Q) : DerS P n ops (o :: l) s Q := zq (p_assign ho (Sees.of hx) rfl) hc h'
theorem zd1 {x : Operand} {e : D} (ho : o.op = .move x) (hx : ev s x = .val e) (hc : chk o n = some d) (h' : DerD P n ops (i + 1) l ((i, (kx x, [d])) :: acc) (upd s d (.val e)) Q) : DerD P n ops i (o :: l) acc s Q := yq (p_move ho (Sees.of hx) rfl) hc h'
theorem zd2 {x : Operand} {e : D} (ho : o.op = .assign x) (hx : ev s x = .val e) (hc : chk o n = some d) (h' : DerD P n ops (i + 1) l ((i, (kx x, [d])) :: acc) (upd s d (.val e)) Q) : DerD P n ops i (o :: l) acc s Q := yq (p_assign ho (Sees.of hx) rfl) hc h'
theorem zm3 {x : Operand} {a u : Nat} (ho : o.op = .move x) (hx : ev s x = .row a u) (hc : chk o n = some d) (h' : DerS P n ops l (upd s d (.row a u)) Q) : DerS P n ops (o :: l) s Q := zq (p_move ho (Sees.of hx) rfl) hc h'
theorem zm4 {x : Operand} {a u : Nat} (ho : o.op = .assign x) (hx : ev s x = .row a u) (hc : chk o n = some d) (h' : DerS P n ops l (upd s d (.row a u)) Q) : DerS P n ops (o :: l) s Q := zq (p_assign ho (Sees.of hx) rfl) hc h'
theorem zm5 {x : Operand} (ho : o.op = .assign x) (hx : ev s x = .emp) (hc : chk o n = some d) (h' : DerS P n ops l (upd s d .emp) Q) : DerS P n ops (o :: l) s Q := zq (p_assign ho (Sees.of hx) rfl) hc h'
end
end Go.Um
