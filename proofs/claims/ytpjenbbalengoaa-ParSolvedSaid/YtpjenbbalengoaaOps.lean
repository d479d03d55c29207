/- Operations that leave the world alone: what they make of abstract values. No condition. -/
import Derived.Test.YtpjenbbalengoaaSpec
import Derived.IntWalk
namespace Go.Um
open Go Go.RowKit

/-- One abstract value says all that another one does. -/
def Sees (x y : AV) : Prop := ∀ (P : Program) (ok : Nat → Prop) (w : World) (s : St) (β : Nat → Option Nat) (ν : Nat → Value) (v : Value), VR P ok w s β ν x [v] → VR P ok w s β ν y [v]

theorem Sees.same {x : AV} : Sees x x := fun _ _ _ _ _ _ _ h => h
theorem Sees.of {x y : AV} (h : x = y) : Sees x y := h ▸ Sees.same
theorem Sees.gv {g : Bool} {x : AV} (h : g = true) : Sees (.gv g x) x := by
  intro P ok w s β ν v hv
  obtain ⟨u, e, h1, _⟩ := hv
  simp only [List.cons.injEq, and_true] at e
  subst e
  exact h1 h
theorem Sees.gv' {a : AV} {g : Bool} {x : AV} (e : a = .gv g x) (h : g = true) : Sees a x := e ▸ Sees.gv h

def kx : Operand → List Nat
  | .tmp t => [t]
  | _ => []

theorem ev_congr {s t : St} {x : Operand} (h : ∀ k ∈ kx x, t k = s k) : ev t x = ev s x := by
  cases x with
  | tmp j => simp only [ev, h j (by simp [kx])]
  | _ => rfl

theorem blt_lt {d n : Nat} (h : Nat.blt d n = true) : d < n := by simp [Nat.blt] at h; omega

section
variable {P : Program} {X : Cx} {s t : St} {a : Act} {w : World} {β : Nat → Option Nat} {ν : Nat → Value}

theorem RelB.sees (hr : RelB P X t a w β ν) {x : Operand} {y : AV} (hk : ∀ k ∈ kx x, t k = s k) (hx : Sees (ev s x) y) : VR P (okAt X t β w) w t β ν y [a.eval x] := by
  have := hr.eval x
  rw [ev_congr hk] at this
  exact hx _ _ _ _ _ _ _ this

theorem vr_int {ok : Nat → Prop} {k : IntKind} {n : Int} {v : Value} (h : VR P ok w s β ν (.val (.int k n)) [v]) : v = .int k n := by
  obtain ⟨u, e, h1, h2⟩ := h
  simp only [List.cons.injEq, and_true] at e
  subst e
  simp only [R] at h2
  cases v <;> simp_all [Value.cells, vAgg, D.isAgg]

theorem vr_bool {ok : Nat → Prop} {b : Bool} {v : Value} (h : VR P ok w s β ν (.val (.bool b)) [v]) : v = .bool b := by
  obtain ⟨u, e, h1, h2⟩ := h
  simp only [List.cons.injEq, and_true] at e
  subst e
  simp only [R] at h2
  cases v <;> simp_all [Value.cells, vAgg, D.isAgg]

theorem vr_str {ok : Nat → Prop} {b : ByteArray} {v : Value} (h : VR P ok w s β ν (.val (.str b)) [v]) : v = .string b := by
  obtain ⟨u, e, h1, h2⟩ := h
  simp only [List.cons.injEq, and_true] at e
  subst e
  simp only [R] at h2
  cases v <;> simp_all [Value.cells, vAgg, D.isAgg]

theorem mk_int (ok : Nat → Prop) (k : IntKind) (n : Int) : VR P ok w s β ν (.val (.int k n)) [.int k n] := ⟨_, rfl, rfl, rfl⟩
theorem mk_bool (ok : Nat → Prop) (b : Bool) : VR P ok w s β ν (.val (.bool b)) [.bool b] := ⟨_, rfl, rfl, rfl⟩
theorem mk_str (ok : Nat → Prop) (b : ByteArray) : VR P ok w s β ν (.val (.str b)) [.string b] := ⟨_, rfl, rfl, rfl⟩

theorem RelB.int (hr : RelB P X t a w β ν) {x : Operand} {k : IntKind} {n : Int} (hk : ∀ k ∈ kx x, t k = s k) (hx : Sees (ev s x) (.val (.int k n))) : a.eval x = .int k n := vr_int (hr.sees hk hx)
theorem RelB.bool (hr : RelB P X t a w β ν) {x : Operand} {b : Bool} (hk : ∀ k ∈ kx x, t k = s k) (hx : Sees (ev s x) (.val (.bool b))) : a.eval x = .bool b := vr_bool (hr.sees hk hx)
theorem RelB.str (hr : RelB P X t a w β ν) {x : Operand} {b : ByteArray} (hk : ∀ k ∈ kx x, t k = s k) (hx : Sees (ev s x) (.val (.str b))) : a.eval x = .string b := vr_str (hr.sees hk hx)
end

/-- An operation that leaves the world alone and makes y. -/
def PStep (P : Program) (o : Oper) (K : List Nat) (s : St) (y : AV) : Prop :=
  (∀ (X : Cx) (t : St) (a : Act) (w : World) (β : Nat → Option Nat) (ν : Nat → Value), (∀ k ∈ K, t k = s k) → RelB P X t a w β ν →
    ver y = none ∧ ∃ v, (execOp a.eval o).run P w = .ok (.value v) w ∧ VR P (okAt X t β w) w t β ν y [v])

section
variable {P : Program} {n : Nat} {ops : Array Oper} {s : St}

theorem ovr_one {t : St} {d : Nat} {y : AV} {s : St} : ovr t [d] (upd s d y) = upd t d y := by
  funext k
  by_cases e : k = d
  · subst e; simp [ovr, upd_same]
  · simp [ovr, e, upd_ne _ _ e]

theorem upd_off {s : St} {d : Nat} {y : AV} (k : Nat) (h : k ∉ [d]) : upd s d y k = s k := upd_ne s y (by simpa using h)

theorem opWp_run {Q : Exit → Act → World → Prop} {o : Oper} {K : Act → World → Prop} {a : Act} {w w' : World} {v : Value} (hw : Region.wanted o (yielded ops a.tmps) = true)
    (hr : (execOp a.eval o).run P w = .ok (.value v) w') (h : K (a.put o.dst v) w') : opWp P ops Q o K a w := by
  unfold opWp
  rw [if_pos hw]
  left
  unfold Oper.wp
  rw [hr]
  exact h

theorem PStep.step {o : Oper} {d : Nat} {K : List Nat} {y : AV} (h : PStep P o K s y) (hd : o.dst = some d) (hg : o.guard = none) (hn : Nat.blt d n = true) (h4 : Nat.blt d 10000 = true) :
    LStep P n ops o (K, [d]) s (upd s d y) := by
  refine ⟨upd_off, fun X t a w hX hk hr Q => ?_⟩
  obtain ⟨β, ν, hr⟩ := hr
  obtain ⟨hy, v, h1, h2⟩ := h X t a w β ν hk hr
  refine opWp_run (by simp [Region.wanted, hg]) h1 ?_
  rw [ovr_one, hd]
  exact ⟨β, ν, hr.put (by rw [hX]; exact blt_lt hn) (by simp [Nat.blt] at h4; omega) hy h2⟩

theorem yielded_bool {a : Act} {j g : Nat} {b : Bool} (hj : (ops[j]?).bind (·.dst) = some g) (hv : a.tmps[g]? = some (.bool b)) : yielded ops a.tmps j = some b := by
  simp only [yielded, hj, Option.bind_some, hv]

/-- The same where the order is the text's: the footprints are of no interest. -/
theorem and_true_of {a b : Bool} (h : a = true) (h' : b = true) : (a && b) = true := by rw [h, h']; rfl

def DerS (P : Program) (n : Nat) (ops : Array Oper) : List Oper → St → (St → Prop) → Prop
  | [], s, K => K s
  | o :: l, s, K => ∃ F s1, LStep P n ops o F s s1 ∧ DerS P n ops l s1 K
theorem DerS.derL : ∀ (l : List Oper) (i : Nat) {s : St} {K : St → Prop}, DerS P n ops l s K → ∃ L, DerL P n ops i l L s K
  | [], i, s, K, h => ⟨[], rfl, h⟩
  | o :: l, i, s, K, h => by
    obtain ⟨F, s1, h1, h2⟩ := h
    obtain ⟨L, h3⟩ := DerS.derL l (i + 1) h2
    exact ⟨(i, F) :: L, F, L, s1, rfl, h1, h3⟩
theorem scons {o : Oper} {l : List Oper} {F : List Nat × List Nat} {s1 : St} {K : St → Prop} (h : LStep P n ops o F s s1) (h' : DerS P n ops l s1 K) : DerS P n ops (o :: l) s K := ⟨F, s1, h, h'⟩
theorem snil {K : St → Prop} (h : K s) : DerS P n ops [] s K := h
/-- And where the order is drawn: the footprints are gathered and looked at in the end. -/
def DerD (P : Program) (n : Nat) (ops : Array Oper) : Nat → List Oper → List (Nat × (List Nat × List Nat)) → St → (St → Prop) → Prop
  | _, [], acc, s, K => drawOk ops acc.reverse = true ∧ K s
  | i, o :: l, acc, s, K => ∃ F s1, LStep P n ops o F s s1 ∧ DerD P n ops (i + 1) l ((i, F) :: acc) s1 K
theorem DerD.derL : ∀ (l : List Oper) (i : Nat) (acc : List (Nat × (List Nat × List Nat))) {s : St} {K : St → Prop}, DerD P n ops i l acc s K → ∃ L, DerL P n ops i l L s K ∧ drawOk ops (acc.reverse ++ L) = true
  | [], i, acc, s, K, h => ⟨[], ⟨rfl, h.2⟩, by simpa using h.1⟩
  | o :: l, i, acc, s, K, h => by
    obtain ⟨F, s1, h1, h2⟩ := h
    obtain ⟨L, h3, h4⟩ := DerD.derL l (i + 1) _ h2
    exact ⟨(i, F) :: L, ⟨F, L, s1, rfl, h1, h3⟩, by simpa using h4⟩
theorem dcons {i : Nat} {o : Oper} {l : List Oper} {F : List Nat × List Nat} {acc : List (Nat × (List Nat × List Nat))} {s1 : St} {K : St → Prop} (h : LStep P n ops o F s s1) (h' : DerD P n ops (i + 1) l ((i, F) :: acc) s1 K) :
    DerD P n ops i (o :: l) acc s K := ⟨F, s1, h, h'⟩
theorem dnil {i : Nat} {acc : List (Nat × (List Nat × List Nat))} {K : St → Prop} (hok : drawOk ops acc.reverse = true) (h : K s) : DerD P n ops i [] acc s K := ⟨hok, h⟩

end

section
variable {P : Program} {s : St} {o : Oper}

theorem kl {K K' : List Nat} {s t : St} (h : ∀ k ∈ K ++ K', t k = s k) : ∀ k ∈ K, t k = s k := fun k hk => h k (List.mem_append_left _ hk)
theorem kr {K K' : List Nat} {s t : St} (h : ∀ k ∈ K ++ K', t k = s k) : ∀ k ∈ K', t k = s k := fun k hk => h k (List.mem_append_right _ hk)

theorem p_move {x : Operand} {y : AV} (ho : o.op = .move x) (hx : Sees (ev s x) y) (hv : ver y = none) : PStep P o (kx x) s y := by
  intro X t a w β ν hk hr
  exact ⟨hv, a.eval x, by simp [execOp, ho], hr.sees hk hx⟩

theorem p_assign {x : Operand} {y : AV} (ho : o.op = .assign x) (hx : Sees (ev s x) y) (hv : ver y = none) : PStep P o (kx x) s y := by
  intro X t a w β ν hk hr
  exact ⟨hv, a.eval x, by simp [execOp, ho], hr.sees hk hx⟩

theorem beq_of_eq {b want : Bool} (h : b = want) : (b == want) = true := by simp [h]

/-- 'c || b' -/
theorem p_or {c x y : Operand} {bc bb : Bool} (ho : o.op = .pick c x y) (hc : Sees (ev s c) (.val (.bool bc))) (hx : Sees (ev s x) (.val (.bool true))) (hy : bc = false → Sees (ev s y) (.val (.bool bb))) :
    PStep P o (kx c ++ (kx x ++ kx y)) s (.val (.bool (bc || bb))) := by
  intro X t a w β ν hk hr
  have h1 := hr.bool (kl hk) hc
  have h2 := hr.bool (kl (kr hk)) hx
  cases bc with
  | true => exact ⟨rfl, .bool true, by simp [execOp, ho, h1, h2, asBool], mk_bool _ _⟩
  | false => exact ⟨rfl, .bool bb, by simp [execOp, ho, h1, hr.bool (kr (kr hk)) (hy rfl), asBool], by simpa using mk_bool _ _⟩

/-- 'c && a' -/
theorem p_and {c x y : Operand} {bc ba : Bool} (ho : o.op = .pick c x y) (hc : Sees (ev s c) (.val (.bool bc))) (hx : bc = true → Sees (ev s x) (.val (.bool ba))) (hy : Sees (ev s y) (.val (.bool false))) :
    PStep P o (kx c ++ (kx x ++ kx y)) s (.val (.bool (bc && ba))) := by
  intro X t a w β ν hk hr
  have h1 := hr.bool (kl hk) hc
  have h2 := hr.bool (kr (kr hk)) hy
  cases bc with
  | true => exact ⟨rfl, .bool ba, by simp [execOp, ho, h1, hr.bool (kl (kr hk)) (hx rfl), asBool], by simpa using mk_bool _ _⟩
  | false => exact ⟨rfl, .bool false, by simp [execOp, ho, h1, h2, asBool], mk_bool _ _⟩

section
variable {x y : Operand} {T T' : TypeId} {k : IntKind} {m n : Int}

theorem p_lss (ho : o.op = .binOp .lss T x y T') (hx : Sees (ev s x) (.val (.int k m))) (hy : Sees (ev s y) (.val (.int k n))) : PStep P o (kx x ++ kx y) s (.val (.bool (decide (m < n)))) := by
  intro X t a w β ν hk hr
  exact ⟨rfl, .bool (decide (m < n)), by simp [execOp, ho, hr.int (kl hk) hx, hr.int (kr hk) hy, eqGuard, binOp, Op.intCmp], mk_bool _ _⟩
theorem p_leq (ho : o.op = .binOp .leq T x y T') (hx : Sees (ev s x) (.val (.int k m))) (hy : Sees (ev s y) (.val (.int k n))) : PStep P o (kx x ++ kx y) s (.val (.bool (decide (m ≤ n)))) := by
  intro X t a w β ν hk hr
  exact ⟨rfl, .bool (decide (m ≤ n)), by simp [execOp, ho, hr.int (kl hk) hx, hr.int (kr hk) hy, eqGuard, binOp, Op.intCmp], mk_bool _ _⟩
theorem p_gtr (ho : o.op = .binOp .gtr T x y T') (hx : Sees (ev s x) (.val (.int k m))) (hy : Sees (ev s y) (.val (.int k n))) : PStep P o (kx x ++ kx y) s (.val (.bool (decide (n < m)))) := by
  intro X t a w β ν hk hr
  exact ⟨rfl, .bool (decide (n < m)), by simp [execOp, ho, hr.int (kl hk) hx, hr.int (kr hk) hy, eqGuard, binOp, Op.intCmp], mk_bool _ _⟩
theorem p_geq (ho : o.op = .binOp .geq T x y T') (hx : Sees (ev s x) (.val (.int k m))) (hy : Sees (ev s y) (.val (.int k n))) : PStep P o (kx x ++ kx y) s (.val (.bool (decide (n ≤ m)))) := by
  intro X t a w β ν hk hr
  exact ⟨rfl, .bool (decide (n ≤ m)), by simp [execOp, ho, hr.int (kl hk) hx, hr.int (kr hk) hy, eqGuard, binOp, Op.intCmp], mk_bool _ _⟩
theorem p_eql (ho : o.op = .binOp .eql T x y T') (hx : Sees (ev s x) (.val (.int k m))) (hy : Sees (ev s y) (.val (.int k n))) : PStep P o (kx x ++ kx y) s (.val (.bool (decide (m = n)))) := by
  intro X t a w β ν hk hr
  exact ⟨rfl, .bool (decide (m = n)), by simp [execOp, ho, hr.int (kl hk) hx, hr.int (kr hk) hy, eqGuard, binOp, Op.intCmp]; rfl, mk_bool _ _⟩
theorem p_neq (ho : o.op = .binOp .neq T x y T') (hx : Sees (ev s x) (.val (.int k m))) (hy : Sees (ev s y) (.val (.int k n))) : PStep P o (kx x ++ kx y) s (.val (.bool (!decide (m = n)))) := by
  intro X t a w β ν hk hr
  exact ⟨rfl, .bool (!decide (m = n)), by simp [execOp, ho, hr.int (kl hk) hx, hr.int (kr hk) hy, eqGuard, binOp, Op.intCmp]; rfl, mk_bool _ _⟩
theorem p_addW (ho : o.op = .binOp .add T x y T') (hx : Sees (ev s x) (.val (.int k m))) (hy : Sees (ev s y) (.val (.int k n))) : PStep P o (kx x ++ kx y) s (.val (.int k (k.wrap (m + n)))) := by
  intro X t a w β ν hk hr
  exact ⟨rfl, _, by simp [execOp, ho, hr.int (kl hk) hx, hr.int (kr hk) hy, eqGuard, binOp, Op.intArith], mk_int _ _ _⟩
theorem p_subW (ho : o.op = .binOp .sub T x y T') (hx : Sees (ev s x) (.val (.int k m))) (hy : Sees (ev s y) (.val (.int k n))) : PStep P o (kx x ++ kx y) s (.val (.int k (k.wrap (m - n)))) := by
  intro X t a w β ν hk hr
  exact ⟨rfl, _, by simp [execOp, ho, hr.int (kl hk) hx, hr.int (kr hk) hy, eqGuard, binOp, Op.intArith], mk_int _ _ _⟩
theorem p_mulW (ho : o.op = .binOp .mul T x y T') (hx : Sees (ev s x) (.val (.int k m))) (hy : Sees (ev s y) (.val (.int k n))) : PStep P o (kx x ++ kx y) s (.val (.int k (k.wrap (m * n)))) := by
  intro X t a w β ν hk hr
  exact ⟨rfl, _, by simp [execOp, ho, hr.int (kl hk) hx, hr.int (kr hk) hy, eqGuard, binOp, Op.intArith], mk_int _ _ _⟩
theorem p_quoW (ho : o.op = .binOp .quo T x y T') (hx : Sees (ev s x) (.val (.int k m))) (hy : Sees (ev s y) (.val (.int k n))) (h0 : n ≠ 0) : PStep P o (kx x ++ kx y) s (.val (.int k (k.wrap (m.tdiv n)))) := by
  intro X t a w β ν hk hr
  exact ⟨rfl, _, by simp [execOp, ho, hr.int (kl hk) hx, hr.int (kr hk) hy, eqGuard, binOp, Op.intDiv, h0], mk_int _ _ _⟩
theorem p_rem (ho : o.op = .binOp .rem T x y T') (hx : Sees (ev s x) (.val (.int k m))) (hy : Sees (ev s y) (.val (.int k n))) (h0 : n ≠ 0) : PStep P o (kx x ++ kx y) s (.val (.int k (m.tmod n))) := by
  intro X t a w β ν hk hr
  exact ⟨rfl, _, by simp [execOp, ho, hr.int (kl hk) hx, hr.int (kr hk) hy, eqGuard, binOp, Op.intDiv, h0], mk_int _ _ _⟩
theorem p_negW (ho : o.op = .unOp .neg T x) (hx : Sees (ev s x) (.val (.int k m))) : PStep P o (kx x) s (.val (.int k (k.wrap (0 - m)))) := by
  intro X t a w β ν hk hr
  exact ⟨rfl, _, by simp [execOp, ho, hr.int hk hx, Op.unary, Op.intArith], mk_int _ _ _⟩
theorem p_not {b : Bool} (ho : o.op = .unOp .not T x) (hx : Sees (ev s x) (.val (.bool b))) : PStep P o (kx x) s (.val (.bool (!b))) := by
  intro X t a w β ν hk hr
  exact ⟨rfl, .bool (!b), by simp [execOp, ho, hr.bool hk hx, Op.unary], mk_bool _ _⟩

theorem p_add (ho : o.op = .binOp .add T x y T') (hx : Sees (ev s x) (.val (.int .i64 m))) (hy : Sees (ev s y) (.val (.int .i64 n))) (h : -9223372036854775808 ≤ m + n ∧ m + n ≤ 9223372036854775807) :
    PStep P o (kx x ++ kx y) s (.val (.int .i64 (m + n))) := by
  have := p_addW (P := P) ho hx hy
  rwa [IntWalk.i64_in _ (by omega)] at this
theorem p_sub (ho : o.op = .binOp .sub T x y T') (hx : Sees (ev s x) (.val (.int .i64 m))) (hy : Sees (ev s y) (.val (.int .i64 n))) (h : -9223372036854775808 ≤ m - n ∧ m - n ≤ 9223372036854775807) :
    PStep P o (kx x ++ kx y) s (.val (.int .i64 (m - n))) := by
  have := p_subW (P := P) ho hx hy
  rwa [IntWalk.i64_in _ (by omega)] at this
theorem p_mul (ho : o.op = .binOp .mul T x y T') (hx : Sees (ev s x) (.val (.int .i64 m))) (hy : Sees (ev s y) (.val (.int .i64 n))) (h : -9223372036854775808 ≤ m * n ∧ m * n ≤ 9223372036854775807) :
    PStep P o (kx x ++ kx y) s (.val (.int .i64 (m * n))) := by
  have := p_mulW (P := P) ho hx hy
  rwa [IntWalk.i64_in _ (by omega)] at this
theorem p_neg (ho : o.op = .unOp .neg T x) (hx : Sees (ev s x) (.val (.int .i64 m))) (h : -9223372036854775807 ≤ m ∧ m ≤ 9223372036854775808) : PStep P o (kx x) s (.val (.int .i64 (-m))) := by
  have := p_negW (P := P) ho hx
  rw [IntWalk.i64_in _ (by omega)] at this
  simpa using this
end
end
end Go.Um
