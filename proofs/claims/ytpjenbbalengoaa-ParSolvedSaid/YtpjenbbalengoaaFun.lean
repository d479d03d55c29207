/- Functions as values; rows and variables shown to a call that only reads. No condition. -/
import Derived.Test.YtpjenbbalengoaaRow2
namespace Go.Um
open Go Go.RowKit

/-- Data that lie in no memory. -/
def D.flat : D → Bool
  | .int .. => true
  | .bool _ => true
  | .str _ => true
  | .nil => true
  | .cons a b => a.flat && b.flat
  | .agg c => c.flat
  | .tup c => c.flat
  | .any => true
  | _ => false

theorem R_flat {P : Program} : ∀ (d : D) {ok ok' : Nat → Prop} {w w' : World} {vs : List Value}, d.flat = true → R P d ok w vs → R P d ok' w' vs := by
  intro d
  induction d with
  | int k n => intro ok ok' w w' vs _ h; exact h
  | bool b => intro ok ok' w w' vs _ h; exact h
  | str s => intro ok ok' w w' vs _ h; exact h
  | nil => intro ok ok' w w' vs _ h; exact h
  | cons a b iha ihb =>
    intro ok ok' w w' vs hf h
    simp only [D.flat, Bool.and_eq_true] at hf
    obtain ⟨v, vs', rfl, h1, h2, h3⟩ := h
    exact ⟨v, vs', rfl, h1, iha hf.1 h2, ihb hf.2 h3⟩
  | agg c ih => intro ok ok' w w' vs hf h; exact ih hf h
  | tup c ih =>
    intro ok ok' w w' vs hf h
    obtain ⟨ws, rfl, h1⟩ := h
    exact ⟨ws, rfl, ih hf h1⟩
  | list s f z xs _ => intro ok ok' w w' vs hf h; cases hf
  | fn f g _ _ => intro ok ok' w w' vs hf h; cases hf
  | sl b d _ => intro ok ok' w w' vs hf h; cases hf
  | any => intro ok ok' w w' vs _ h; exact h
  | ptr d _ => intro ok ok' w w' vs hf h; cases hf
  | clp d _ => intro ok ok' w w' vs hf h; cases hf
  | ifc T d _ => intro ok ok' w w' vs hf h; cases hf

/-- The blocks that a call which only reads may look at: q: those of the frame's own objects too. -/
def okq (q : Bool) (X : Cx) (t : St) (β : Nat → Option Nat) (w : World) : Nat → Prop := okAt X (bif q then (fun _ => AV.any) else t) β w

theorem okq_of {q : Bool} {X : Cx} {t : St} {β : Nat → Option Nat} {w : World} {b : Nat} (h : okAt X t β w b) : okq q X t β w b := by
  cases q with
  | false => exact h
  | true => exact ⟨h.1, h.2.1, fun o hl => by cases hl⟩

section
variable {P : Program} {n : Nat} {ops : Array Oper} {s : St} {o : Oper}

/-- What is x in the frame's state shows itself to a call as y. -/
def Shows (q : Bool) (P : Program) (K : List Nat) (s : St) (x y : AV) : Prop :=
  ∀ (X : Cx) (t : St) (a : Act) (w : World) (β : Nat → Option Nat) (ν : Nat → Value) (v : Value), (∀ k ∈ K, t k = s k) → RelB P X t a w β ν → VR P (okAt X t β w) w t β ν x [v] →
    VR P (okq q X t β w) w (fun _ => .any) (fun _ => none) (fun _ => undef) y [v]

/-- The same of chains. -/
def ShowsC (q : Bool) (P : Program) (K : List Nat) (s : St) (x : AV) (y : D) : Prop :=
  ∀ (X : Cx) (t : St) (a : Act) (w : World) (β : Nat → Option Nat) (ν : Nat → Value) (vs : List Value), (∀ k ∈ K, t k = s k) → RelB P X t a w β ν → VR P (okAt X t β w) w t β ν x vs → R P y (okq q X t β w) w vs

theorem sh_of {q : Bool} {x y : AV} (h : Sees x y) (hm : ment y = []) : Shows q P [] s x y := fun _ _ _ _ _ _ _ _ _ hv =>
  VR_mono' (fun _ hb => ⟨okq_of hb, rfl⟩) (Nat.le_refl _) y (fun o ho => by rw [hm] at ho; cases ho) (h _ _ _ _ _ _ _ hv)

theorem sh_row {o1 u e sz by_ : Nat} {α : Type} {f : α → D} {z : α} {xs : List α} {x : AV} (hx : Sees x (.row o1 u)) (hb : s o1 = .arr u e sz by_ f z xs) : Shows true P [o1] s x (.val (.list sz f z xs)) := by
  intro X t a w β ν v hk hr hv
  obtain ⟨v', k, e1, h1, h2, h3⟩ := hx _ _ _ _ _ _ _ hv
  simp only [List.cons.injEq, and_true] at e1
  subst e1
  have hob : t o1 = .arr u e sz by_ f z xs := by rw [hk o1 (by simp), hb]
  rw [hob] at h1
  simp only [ver, Option.some.injEq] at h1
  have hv' := h3 h1 (by rw [hob]; rfl)
  have ho := hr.obj o1
  rw [hob] at ho
  obtain ⟨cells, g1, g2, g3, g4, g4', g5, g6⟩ := ho
  rw [← hv'] at g1 g2
  refine ⟨_, rfl, row_reads (t := t) (t' := fun _ => .any) g1 rfl (fun b hb' => ⟨hb'.1, hb'.2.1, fun o hl => by cases hl⟩) (fun b hb' => ?_) g5 g4' g6⟩
  have hw := hr.own o1 b (by rw [hob]; rfl) (by rw [g2]; exact hb')
  exact ⟨.inr hw.1, hw.2, fun o hl => by cases hl⟩

theorem sh_ref {o1 u : Nat} {c : AV} {d : D} {K : List Nat} {x : AV} (hx : Sees x (.ref o1 u 0)) (hb : s o1 = .box u c) (hc : ShowsC true P K s c d) : Shows true P (o1 :: K) s x (.ptr d) := by
  intro X t a w β ν v hk hr hv
  obtain ⟨v', k, e1, h1, h2, h3⟩ := hx _ _ _ _ _ _ _ hv
  simp only [List.cons.injEq, and_true] at e1
  subst e1
  have hob : t o1 = .box u c := by rw [hk o1 (by simp), hb]
  rw [hob] at h1
  simp only [ver, Option.some.injEq] at h1
  obtain ⟨b, h4, rfl⟩ := h3 h1 (by rw [hob]; rfl)
  have ho := hr.obj o1
  rw [hob] at ho
  obtain ⟨b', cs, ty, g1, g2, g3, g4⟩ := ho
  rw [h4] at g1
  cases g1
  have hw := hr.own o1 b (by rw [hob]; rfl) h4
  refine ⟨⟨b, 0, none⟩, cs.toList, rfl, rfl, ⟨.inr hw.1, hw.2, fun o hl => by cases hl⟩, g3, ?_, hc X t a w β ν _ (fun k hk' => hk k (List.mem_cons_of_mem _ hk')) hr g4⟩
  intro j hj
  simp only [World.cell?, g2]
  simp at hj
  simp [hj]

theorem sh_refS {o1 u : Nat} {c : AV} {d : D} {K : List Nat} {x : AV} (hx : Sees x (.ref o1 u 0)) (hb : s o1 = .box u c) (hc : ShowsC true P K s c d) : Shows true P (o1 :: K) s x (.ptr (.agg d)) := sh_ref hx hb hc

theorem sh_ref1 {o1 u : Nat} {y : AV} {d : D} {K : List Nat} {x : AV} (hx : Sees x (.ref o1 u 0)) (hb : s o1 = .box u (.ccons y .cnil)) (hd : d.one = true) (hc : Shows true P K s y (.val d)) : Shows true P (o1 :: K) s x (.ptr d) := by
  have hC : ShowsC true P K s (.ccons y .cnil) (.cons d .nil) := by
    rintro X t a w β ν vs hk hr ⟨v, vs', rfl, g1, g2⟩
    obtain ⟨v', e1, g3, g4⟩ := hc X t a w β ν v hk hr g1
    simp only [List.cons.injEq, and_true] at e1
    subst e1
    exact ⟨v, vs', rfl, g3, g4, g2⟩
  intro X t a w β ν v hk hr hv
  obtain ⟨p, cs, h1, h2, h3, h4, h5, v', vs', rfl, h6, h7, h8⟩ := sh_ref hx hb hC X t a w β ν v hk hr hv
  simp only [R] at h8
  subst h8
  exact ⟨p, [v'], h1, h2, h3, h4, h5, (RV_one hd ⟨h6, h7⟩).1⟩

theorem shc_nil {q : Bool} : ShowsC q P [] s .cnil .nil := fun _ _ _ _ _ _ _ _ _ hv => hv

theorem shc_cons {q : Bool} {K K' : List Nat} {x c : AV} {d e : D} (h1 : Shows q P K s x (.val d)) (h2 : ShowsC q P K' s c e) : ShowsC q P (K ++ K') s (.ccons x c) (.cons d e) := by
  rintro X t a w β ν vs hk hr ⟨v, vs', rfl, g1, g2⟩
  obtain ⟨v', e1, g3, g4⟩ := h1 X t a w β ν v (fun k hk' => hk k (List.mem_append_left _ hk')) hr g1
  simp only [List.cons.injEq, and_true] at e1
  subst e1
  exact ⟨v, vs', rfl, g3, g4, h2 X t a w β ν vs' (fun k hk' => hk k (List.mem_append_right _ hk')) hr g2⟩

/-- A chain of captured values, as arguments. -/
def ShowsL (q : Bool) (P : Program) (s : St) : AV → List AV → List Nat → Prop
  | .cnil, ys, K => ys = [] ∧ K = []
  | .ccons x c, ys, K => ∃ y ys' K1 K2, ys = y :: ys' ∧ K = K1 ++ K2 ∧ Shows q P K1 s x y ∧ ShowsL q P s c ys' K2
  | _, _, _ => False

theorem ShowsL.args {q : Bool} : ∀ {c : AV} {ys : List AV} {K : List Nat}, ShowsL q P s c ys K → ∀ (X : Cx) (t : St) (a : Act) (w : World) (β : Nat → Option Nat) (ν : Nat → Value) (vs : List Value), (∀ k ∈ K, t k = s k) → RelB P X t a w β ν → VR P (okAt X t β w) w t β ν c vs →
    ArgsR P (okq q X t β w) w ys vs := by
  intro c
  induction c with
  | cnil => rintro ys K ⟨rfl, rfl⟩ X t a w β ν vs _ _ hv; exact hv
  | ccons x c _ ih =>
    rintro ys K ⟨y, ys', K1, K2, rfl, rfl, h1, h2⟩ X t a w β ν vs hk hr ⟨v, vs', rfl, g1, g2⟩
    exact ⟨v, vs', rfl, h1 X t a w β ν v (fun k hk' => hk k (List.mem_append_left _ hk')) hr g1, ih h2 X t a w β ν vs' (fun k hk' => hk k (List.mem_append_right _ hk')) hr g2⟩
  | _ => intro ys K h; exact h.elim

theorem sl_nil {q : Bool} : ShowsL q P s .cnil [] [] := ⟨rfl, rfl⟩
theorem sl_cons {q : Bool} {x c y : AV} {ys : List AV} {K1 K2 : List Nat} (h1 : Shows q P K1 s x y) (h2 : ShowsL q P s c ys K2) : ShowsL q P s (.ccons x c) (y :: ys) (K1 ++ K2) := ⟨y, ys, K1, K2, rfl, rfl, h1, h2⟩

/-- Data as arguments. -/
def cAV : D → List AV
  | .cons a b => .val a :: cAV b
  | _ => []

theorem args_c {ok : Nat → Prop} {w : World} : ∀ {d : D} {vs : List Value}, R P d ok w vs → ∀ {l : List AV}, cAV d = l → d.len = l.length → vs.length = l.length → ArgsR P ok w l vs := by
  intro d
  induction d with
  | cons a b _ ih =>
    rintro vs ⟨v, vs', rfl, h1, h2, h3⟩ l rfl hl hv
    simp only [cAV, List.length_cons, D.len] at hl hv ⊢
    exact ⟨v, vs', rfl, ⟨v, rfl, h1, h2⟩, ih h3 rfl (by omega) (by omega)⟩
  | _ =>
    rintro vs h l rfl hl hv
    simp only [cAV, List.length_nil, List.length_eq_zero_iff] at hv
    subst hv
    rfl

theorem ArgsR_append {ok : Nat → Prop} {w : World} : ∀ {xs ys : List AV} {vs us : List Value}, ArgsR P ok w xs vs → ArgsR P ok w ys us → ArgsR P ok w (xs ++ ys) (vs ++ us)
  | [], _, _, _, h, h' => by simp only [ArgsR] at h; subst h; exact h'
  | x :: xs, _, _, _, h, h' => by obtain ⟨v, vs', rfl, h1, h2⟩ := h; exact ⟨v, vs' ++ _, rfl, h1, ArgsR_append h2 h'⟩

theorem ArgsR_mono {ok ok' : Nat → Prop} {w w' : World} (hk : ∀ b, ok b → ok' b ∧ w'.heap[b]? = w.heap[b]?) (hs : w.heap.size ≤ w'.heap.size) : ∀ {xs : List AV} {vs : List Value}, ArgsR P ok w xs vs → ArgsR P ok' w' xs vs
  | [], _, h => h
  | x :: xs, _, h => by obtain ⟨v, vs', rfl, h1, h2⟩ := h; exact ⟨v, vs', rfl, VR_mono hk hs (Goes.refl _ _ _) _ h1, ArgsR_mono hk hs h2⟩

/-- Chains end. -/
theorem ArgsR_monoC {ok ok' : Nat → Prop} {w w' : World} (hk : ∀ b, ok b → ok' b ∧ (cellsB w.heap[b]? = true → w'.heap[b]? = w.heap[b]?)) (hs : w.heap.size ≤ w'.heap.size) : ∀ {xs : List AV} {vs : List Value}, ArgsR P ok w xs vs → ArgsR P ok' w' xs vs
  | [], _, h => h
  | x :: xs, _, h => by
    obtain ⟨v, vs', rfl, h1, h2⟩ := h
    exact ⟨v, vs', rfl, VR_monoC' hk hs _ (fun o _ => Goes.refl _ _ _ o) h1, ArgsR_monoC hk hs h2⟩

def D.chain : D → Bool
  | .nil => true
  | .cons _ b => b.chain
  | _ => false

theorem R_chain {ok : Nat → Prop} {w : World} : ∀ {d : D} {vs : List Value}, d.chain = true → R P d ok w vs → ArgsR P ok w (cAV d) vs := by
  intro d
  induction d with
  | nil => intro vs _ h; exact h
  | cons a b _ ih => rintro vs hc ⟨v, vs', rfl, h1, h2, h3⟩; exact ⟨v, vs', rfl, ⟨v, rfl, h1, h2⟩, ih hc h3⟩
  | _ => intro vs hc; cases hc

theorem chain_R {ok : Nat → Prop} {w : World} : ∀ {d : D} {vs : List Value}, d.chain = true → ArgsR P ok w (cAV d) vs → R P d ok w vs := by
  intro d
  induction d with
  | nil => intro vs _ h; exact h
  | cons a b _ ih => rintro vs hc ⟨v, vs', rfl, ⟨v', e, h1, h2⟩, h3⟩; cases e; exact ⟨v, vs', rfl, h1, h2, ih hc h3⟩
  | _ => intro vs hc; cases hc

/-- A function with its captured values, as a function of data. -/
theorem sh_clo {q : Bool} {F : FuncId} {c x : AV} {ys : List AV} {K : List Nat} {α : Type} {f g : α → D} (hx : Sees x (.clo F c)) (hF : IsFn P F) (hc : ShowsL q P s c ys K) (hch : ∀ x, (f x).chain = true) (hg : ∀ x, (g x).flat = true) (hS : ∀ x, Spec P F (cAV (f x) ++ ys) (g x)) :
    Shows q P K s x (.val (.fn f g)) := by
  intro X t a w β ν v hk hr hv
  obtain ⟨caps, e1, h1⟩ := hx _ _ _ _ _ _ _ hv
  simp only [List.cons.injEq, and_true] at e1
  subst e1
  have hargs := hc.args X t a w β ν _ hk hr h1
  refine ⟨_, rfl, rfl, F, caps, rfl, hF, fun x w' ok' args hkeep hsz hok' hR => ?_⟩
  have hA : ArgsR P (fun b => ok' b ∨ okq q X t β w b) w' (cAV (f x) ++ ys) (args ++ caps.toList) :=
    ArgsR_append (ArgsR_mono (fun b hb => ⟨.inl hb, rfl⟩) (Nat.le_refl _) (R_chain (hch x) hR)) (ArgsR_monoC (fun b hb => ⟨.inr hb, hkeep b hb⟩) hsz hargs)
  have hC := hS x w' _ _ (fun b hb => hb.elim (hok' b) (fun hb => Nat.lt_of_lt_of_le hb.2.1 hsz)) hA
  have e : (args ++ caps.toList).toArray = args.toArray ++ caps := by simp
  rw [e] at hC
  refine hC.mono ?_
  rintro e w'' ⟨v, rfl, hv, hb⟩
  exact ⟨v, rfl, hv.1, R_flat _ (hg x) hv.2, hb⟩

/-! ### Calls that only read -/

def SArgs (q : Bool) (P : Program) (s : St) : List Operand → List AV → List Nat → Prop
  | [], ys, K => ys = [] ∧ K = []
  | x :: xs, ys, K => ∃ y ys' K1 K2, ys = y :: ys' ∧ K = kx x ++ (K1 ++ K2) ∧ Shows q P K1 s (ev s x) y ∧ SArgs q P s xs ys' K2

theorem sa_nil {q : Bool} : SArgs q P s [] [] [] := ⟨rfl, rfl⟩
theorem sa_cons {q : Bool} {x : Operand} {xs : List Operand} {y : AV} {ys : List AV} {K1 K2 : List Nat} (h1 : Shows q P K1 s (ev s x) y) (h2 : SArgs q P s xs ys K2) : SArgs q P s (x :: xs) (y :: ys) (kx x ++ (K1 ++ K2)) := ⟨y, ys, K1, K2, rfl, rfl, h1, h2⟩

theorem SArgs.args {q : Bool} {X : Cx} {t : St} {a : Act} {w : World} {β : Nat → Option Nat} {ν : Nat → Value} (hr : RelB P X t a w β ν) : ∀ {xs : List Operand} {ys : List AV} {K : List Nat}, (∀ k ∈ K, t k = s k) → SArgs q P s xs ys K → ArgsR P (okq q X t β w) w ys (xs.map a.eval)
  | [], ys, K, _, h => by obtain ⟨rfl, rfl⟩ := h; rfl
  | x :: xs, ys, K, hk, h => by
    obtain ⟨y, ys', K1, K2, rfl, rfl, h1, h2⟩ := h
    refine ⟨a.eval x, xs.map a.eval, rfl, h1 X t a w β ν _ (fun k hk' => hk k (by simp [hk'])) hr (hr.sees (fun k hk' => hk k (by simp [hk'])) Sees.same), SArgs.args hr (fun k hk' => hk k (by simp [hk'])) h2⟩

theorem okq_lt {q : Bool} {X : Cx} {t : St} {β : Nat → Option Nat} {w : World} {b : Nat} (h : okq q X t β w b) : b < w.heap.size := h.2.1

/-- A call of a pure function: q: rows and variables of the frame are shown to it, and what it makes lies in no memory. -/
theorem c_callQ {q : Bool} {f : FuncId} {xs : List Operand} {T : Array TypeId} {ys : List AV} {K : List Nat} {r : D} (ho : o.op = .call { callee := .value (.func f), args := xs.toArray, argTypes := T }) (hf : IsFn P f) (hx : SArgs q P s xs ys K) (hq : (!q || r.flat) = true) (hs : Spec P f ys r) :
    CStep P o K s (.val r) := by
  intro X t a w β ν hk hr
  refine ⟨rfl, fun Q K' hK => ?_⟩
  have hargs := SArgs.args hr hk hx
  have hc := hs w (okq q X t β w) _ (fun b hb => okq_lt hb) hargs
  have hrun : (execOp a.eval o).run P w = .ok (.enter f (xs.map a.eval).toArray) w := by
    simp [execOp, ho, resolve, Act.eval, Deferred.ofValue, invoke, run_callFunc hf]
  unfold Oper.wp
  rw [hrun]
  refine hc.mono ?_
  rintro e w' ⟨v, rfl, hv, hbel⟩
  refine hK v w' (hr.below hbel) ⟨v, rfl, hv.1, ?_⟩
  cases q with
  | true => exact R_flat _ (by simpa using hq) hv.2
  | false =>
    refine R_mono _ (fun b hb => ⟨?_, rfl⟩) (Nat.le_refl _) hv.2
    rcases hb with hb | hb
    · exact ⟨hb.1, Nat.lt_of_lt_of_le hb.2.1 hbel.size, hb.2.2⟩
    · exact ⟨.inr (.inl (Nat.le_trans hr.size hb.1)), hb.2, fun o hl h => by have := (hr.own o b hl h).2; omega⟩

/-- A call of a function value that is known as a function of data. -/
theorem c_callV {q : Bool} {x : Operand} {xs : List Operand} {T : Array TypeId} {K : List Nat} {α : Type} {f g : α → D} (a0 : α) (ho : o.op = .call { callee := .value x, args := xs.toArray, argTypes := T }) (hx : Sees (ev s x) (.val (.fn f g))) (hch : (f a0).chain = true) (hy : SArgs q P s xs (cAV (f a0)) K) (hq : (!q || (g a0).flat) = true) :
    CStep P o (kx x ++ K) s (.val (g a0)) := by
  intro X t a w β ν hk hr
  refine ⟨rfl, fun Q K' hK => ?_⟩
  have hargs := SArgs.args hr (kr hk) hy
  obtain ⟨v, e1, hv⟩ := hr.sees (kl hk) hx
  simp only [List.cons.injEq, and_true] at e1
  subst e1
  obtain ⟨hv1, F, caps, hv2, hF, hS⟩ := hv
  have hval : a.eval x = .func (.func F) #[] caps := by
    generalize a.eval x = v at hv1 hv2
    cases v <;> simp_all [Value.cells, vAgg, D.isAgg]
  have hc := hS a0 w (okq q X t β w) (xs.map a.eval) (fun b hb _ => rfl) (Nat.le_refl _) (fun b hb => okq_lt hb) (chain_R hch hargs)
  have hrun : (execOp a.eval o).run P w = .ok (.enter F ((xs.map a.eval).toArray ++ caps)) w := by
    simp [execOp, ho, resolve, hval, Deferred.ofValue, invoke, run_callFunc hF]
  unfold Oper.wp
  rw [hrun]
  refine hc.mono ?_
  rintro e w' ⟨v, rfl, hv1, hv, hbel⟩
  refine hK v w' (hr.below hbel) ⟨v, rfl, hv1, ?_⟩
  cases q with
  | true => exact R_flat _ (by simpa using hq) hv
  | false =>
    refine R_mono _ (fun b hb => ⟨?_, rfl⟩) (Nat.le_refl _) hv
    rcases hb with hb | hb
    · exact ⟨hb.1, Nat.lt_of_lt_of_le hb.2.1 hbel.size, hb.2.2⟩
    · exact ⟨.inr (.inl (Nat.le_trans hr.size hb.1)), hb.2, fun o hl h => by have := (hr.own o b hl h).2; omega⟩

/-- The chain of captured values. -/
def capC (s : St) : List Operand → AV
  | [] => .cnil
  | x :: l => .ccons (ev s x) (capC s l)

theorem capC_ver (s : St) : ∀ l, ver (capC s l) = none
  | [] => rfl
  | _ :: _ => rfl

theorem cap_ok {X : Cx} {t : St} {a : Act} {w : World} {β : Nat → Option Nat} {ν : Nat → Value} (hr : RelB P X t a w β ν) : ∀ {l : List Operand}, (∀ k ∈ kxl l, t k = s k) → VR P (okAt X t β w) w t β ν (capC s l) (l.map a.eval)
  | [], _ => rfl
  | x :: l, hk => ⟨a.eval x, l.map a.eval, rfl, hr.sees (fun k hk' => hk k (by simp [kxl, hk'])) Sees.same, cap_ok hr (fun k hk' => hk k (by simp [kxl, hk']))⟩

theorem p_makeFunc {F : FuncId} {l : List Operand} (ho : o.op = .makeFunc (.func F) #[] l.toArray) : PStep P o (kxl l) s (.clo F (capC s l)) := by
  intro X t a w β ν hk hr
  refine ⟨rfl, .func (.func F) #[] (l.map a.eval).toArray, by simp [execOp, ho, Instr.makeFunc], _, rfl, ?_⟩
  simpa using cap_ok hr hk

end
end Go.Um
