/- A struct with objects in its cells is stored into a variable. No condition. -/
import Derived.Test.YtpjenbbalengoaaSv
namespace Go.Um
open Go Go.RowKit
section
variable {P : Program} {n : Nat} {ops : Array Oper} {s : St} {o : Oper}
theorem VR_len {ok : Nat → Prop} {w : World} {t : St} {β : Nat → Option Nat} {ν : Nat → Value} : ∀ (c : AV) (cs : List Value), c.chain = true → VR P ok w t β ν c cs → cs.length = c.len := by
  intro c
  induction c with
  | cnil => intro cs _ h; simp only [VR] at h; subst h; rfl
  | ccons a b iha ihb => intro cs h1 h; obtain ⟨v, vs, rfl, _, h2⟩ := h; simp [AV.len, ihb vs h1 h2]
  | _ => intro cs h1 _; cases h1
theorem r_storeV {x y : Operand} {T k ob u : Nat} {c e : AV} (ho : o.op = .store T x y) (hs : Size P T k) (hd : o.dst = none) (hg : o.guard = none) (hob : Nat.blt 9999 ob = true) (hx : Sees (ev s x) (.ref ob u 0)) (hb : s ob = .box u c) (hy : Sees (ev s y) (.sv e))
    (hl : e.len = k) (hl' : c.len = k) (hch : c.chain = true) (hche : e.chain = true) :
    LStep P n ops o ((ob :: kx x) ++ kx y, [ob]) s (upd s ob (.box u e)) := by
  refine ⟨upd_off, fun X t a w hX hk hr Q => ?_⟩
  obtain ⟨β, ν, hr⟩ := hr
  obtain ⟨b, cs, ty, g1, g2, g3, g4, g5⟩ := hr.atBox (kl hk) hx hb
  obtain ⟨q, e1, r2, r1⟩ := hr.sees (kr hk) hy
  simp only [List.cons.injEq, and_true] at e1
  have hlen : cs.size = k := by
    have := VR_len c cs.toList hch g5
    simp at this
    omega
  have hsz : q.size = k := by
    have := VR_len e q.toList hche r1
    simp at this
    omega
  have hcl : (a.eval y).cells = q := by rw [e1]; rfl
  have hrun : (execOp a.eval o).run P w = .ok .skip (w.setRow b q) := by
    have hst := run_storeCells_at (P := P) b 0 ty q.toList 0 cs w g3 (by simp; omega) r2
    have e : (cs.toList.take (0 + 0) ++ q.toList ++ cs.toList.drop (0 + 0 + q.toList.length)).toArray = q := by
      rw [List.drop_of_length_le (by simp; omega)]
      simp
    rw [e] at hst
    simp [execOp, ho, Instr.storeAt, g1, Instr.sureAddr, storeVar, run_sizeOf hs, hcl, hsz, hst]
  refine opWp_skip (by simp [Region.wanted, hg]) hd hrun ?_
  rw [ovr_one]
  have hob' := blt_lt hob
  exact ⟨β, ν, hr.setBox (by omega) (by rw [hk ob (by simp), hb]) g2 g3 r2 r1⟩
end
end Go.Um
