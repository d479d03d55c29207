/- Rules for code in the order in which a walk meets it. No condition. -/
import Derived.Test.YtpjenbbalengoaaBoxRow
namespace Go.Um
open Go Go.RowKit

/-- Pieces of code, one behind the other. -/
def AWs (P : Program) (n : Nm) : List Code → St → (Exit → St → Prop) → Prop
  | [], s, Q => Q .normal s
  | c :: l, s, Q => AW P n c s (thn (fun s' => AWs P n l s' Q) Q)

/-- Behind a block. -/
def blkQ (P : Program) (n : Nm) (id : Nat) (l : List Code) (Q : Exit → St → Prop) : Exit → St → Prop
  | .normal, s => AWs P n l s Q
  | .exit id', s => bif Nat.beq id' id then AWs P n l s Q else Q (.exit id') s
  | e, s => Q e s

/-- Behind a loop's round. -/
def lopQ (P : Program) {α : Type} (I : α → Prop) (S : α → List (Nat × AV)) (μ : α → Nat) (x : α) (Q : Exit → St → Prop) : Exit → St → Prop
  | .normal, s => ∃ y, I y ∧ μ y < μ x ∧ Le P s (ofL (S y))
  | e, s => Q e s

section
variable {P : Program} {n : Nm} {s : St} {Q : Exit → St → Prop} {l : List Code}

theorem AWs.one {c : Code} (h : AWs P n [c] s Q) : AW P n c s Q := AW.mono h (fun e s h => by cases e <;> exact h)

theorem f_nil (h : Q .normal s) : AWs P n [] s Q := h
theorem f_seq {x y : Code} (h : AWs P n (x :: y :: l) s Q) : AWs P n (.seq x y :: l) s Q := by
  refine AW.seq (AW.mono h (fun e s h => ?_))
  cases e <;> exact h
theorem f_region {id : Nat} {ol : List Oper} (h : DerS P n.n ol.toArray ol s (fun s' => AWs P n l s' Q)) (hnd : noDef ol.toArray = true := by first | rfl | kernel_rfl) : AWs P n (.region id ol.toArray false :: l) s Q := by
  obtain ⟨L, h⟩ := DerS.derL ol 0 h
  exact AW.region (L := L) h hnd
theorem f_draw {id : Nat} {ol : List Oper} (hm : P.follows .mixedOrders = true) (he : edgesOk ol.toArray = true) (h : DerD P n.n ol.toArray 0 ol [] s (fun s' => AWs P n l s' Q)) (hnd : noDef ol.toArray = true := by first | rfl | kernel_rfl) :
    AWs P n (.region id ol.toArray true :: l) s Q := by
  obtain ⟨L, h, hok⟩ := DerD.derL ol 0 [] h
  exact AW.draw (L := L) hm h he hnd (by simpa using hok)
theorem f_cond {c : Operand} {x y : Code} {t : Bool} (hc : ev s c = .val (.bool t)) (ht : t = true → AWs P n (x :: l) s Q) (hf : t = false → AWs P n (y :: l) s Q) : AWs P n (.cond c x y :: l) s Q := AW.cond hc ht hf
theorem f_skip (h : AWs P n l s Q) : AWs P n (.skip :: l) s Q := AW.skip h
theorem f_ret (h : Q .ret s) : AWs P n (.ret :: l) s Q := AW.ret h
theorem f_exit {id : Nat} (h : Q (.exit id) s) : AWs P n (.exit id :: l) s Q := AW.exit h
theorem f_block {id : Nat} {c : Code} (h : AWs P n [c] s (blkQ P n id l Q)) : AWs P n (.block id c :: l) s Q := by
  refine AW.block (AW.mono h.one (fun e s h => ?_))
  cases e with
  | exit id' =>
    simp only [blkQ] at h
    simp only [inB]
    cases hb : Nat.beq id' id
    · rw [hb] at h; exact h
    · rw [hb] at h; exact h
  | _ => exact h
theorem f_loop {α : Type} (I : α → Prop) (S : α → List (Nat × AV)) (μ : α → Nat) {c : Code} (a0 : α) (h0 : I a0) (hs : Le P s (ofL (S a0))) (round : ∀ x, I x → AWs P n [c] (ofL (S x)) (lopQ P I S μ x (thn (fun s' => AWs P n l s' Q) Q))) :
    AWs P n (.loop c :: l) s Q := by
  refine AW.loop I (fun x => ofL (S x)) μ a0 h0 hs (fun x hx => AW.mono (round x hx).one (fun e s h => ?_))
  cases e <;> exact h

theorem f_back {α : Type} {I : α → Prop} {S : α → List (Nat × AV)} {μ : α → Nat} {x : α} (h : ∃ y, I y ∧ μ y < μ x ∧ Le P s (ofL (S y))) : AWs P n [] s (lopQ P I S μ x Q) := h

theorem spec_of' {f : FuncId} {fn : Func} {c : Code} {args : List AV} {r : D} (hf : P.funcs[f]? = some fn) (hb : fn.body = some c) {n : Nat} (hn : fn.ntmps = n) (hl : Nat.blt args.length (n + 1) = true)
    (h : AWs P ⟨n, true⟩ [c] (initS args) (Ends P fn r)) : Spec P f args r := spec_of hf hb hn (by have := blt_lt hl; omega) h.one

/-- The same for a function that makes a row. -/
theorem specN_of' {f : FuncId} {fn : Func} {c : Code} {args : List AV} {e sz by_ : Nat} {α : Type} {g : α → D} {xs : List α} (hf : P.funcs[f]? = some fn) (hb : fn.body = some c) {n : Nat} (hn : fn.ntmps = n) (hl : Nat.blt args.length (n + 1) = true)
    (h : AWs P ⟨n, true⟩ [c] (initS args) (EndsN P fn e sz by_ g xs)) : SpecN P f args e sz by_ g xs := by
  intro w ok vs hok hargs
  obtain ⟨X, hXn, rfl, rfl, hXb, hXd, hXk, hr⟩ := start_rel (fn := fn) hn (by have := blt_lt hl; omega) hok hargs
  refine calls_of_aft hf hb hXd (fun e s h => h.1) (h.one none X _ _ ⟨hXn, fun _ => rfl⟩ hr) ?_
  rintro en s X' a' w' β ν ⟨he, hres⟩ x1 x2 x3 x4 x5 x6 hr'
  obtain ⟨v, hv1, hv2⟩ := hres X' a' w' β ν (fun b => by rw [x4]; exact hXb b) hr'
  rw [x2, x3] at hv2
  refine ⟨v, hv1, v, rfl, hv2, ⟨⟨?_, ?_, ?_, ?_, ?_⟩, ?_⟩⟩
  · rw [← x2]; exact hr'.os
  · rw [← x2]; exact hr'.tape
  · rw [← x2]; exact hr'.output
  · rw [← x2]; exact hr'.size
  · intro k hk; rw [← x2] at hk ⊢; exact hr'.frame k hk (by rw [x4]; exact hXb k)
  · rw [← x2]; exact hr'.drawn

theorem f_wf (x : Operand) {d : D} (hx : ev s x = .val d) (h : d.wf → AWs P n l s Q) (hl : l ≠ []) : AWs P n l s Q := by
  match l, hl with
  | c :: l', _ => exact AW.wf x hx h

theorem f_le {s' : St} (hs : Le P s s') (h : AWs P n l s' Q) (hl : l ≠ []) : AWs P n l s Q := by
  match l, hl with
  | c :: _, _ => exact AW.weak hs h

theorem f_weak {l' : List (Nat × AV)} (hs : Le P s (ofL l')) (h : AWs P n l (ofL l') Q) (hl : l ≠ []) : AWs P n l s Q := by
  match l, hl with
  | c :: _, _ => exact AW.weak hs h

/-- Another reading of what lies in a slot. -/
theorem RelB.slotAs {X : Cx} {t : St} {a : Act} {w : World} {β : Nat → Option Nat} {ν : Nat → Value} (hr : RelB P X t a w β ν) {k : Nat} {y : AV} (hk : k < 10000) (hy : ver y = none) (hv : VR P (okAt X t β w) w t β ν y [a.tmps.getD k undef]) : RelB P X (upd t k y) a w β ν := by
  have hlv : ∀ j, live (upd t k y j) = true → upd t k y j = t j := by
    intro j hj
    by_cases e : j = k
    · subst e; rw [upd_same, live_ver hy] at hj; cases hj
    · exact upd_ne _ _ e
  have hgoes : Goes t (upd t k y) β β ν ν := by
    intro j m hm
    have e : j ≠ k := by rintro rfl; rw [hr.keys j hk] at hm; cases hm
    exact ⟨m, by rw [upd_ne _ _ e]; exact hm, Nat.le_refl _, fun _ hl => ⟨by rw [← hlv j hl]; exact hl, rfl, rfl⟩⟩
  have hok : ∀ b, okAt X t β w b → okAt X (upd t k y) β w b ∧ w.heap[b]? = w.heap[b]? := fun b hb => ⟨⟨hb.1, hb.2.1, fun j hl => hb.2.2 j (by rw [← hlv j hl]; exact hl)⟩, rfl⟩
  refine hr.move rfl rfl ⟨rfl, Nat.le_refl _⟩ (Nat.le_refl _) (fun _ _ _ => rfl) hok hgoes ?_ ?_ ?_ ?_ ?_ rfl rfl (fun _ => .inl (upd_ne _ _ (by omega)))
  · intro j b hl hb'; exact .inl ⟨by rw [← hlv j hl]; exact hl, hb'⟩
  · intro j j' b hl hl' h1 h2; exact hr.inj j j' b (by rw [← hlv j hl]; exact hl) (by rw [← hlv j' hl']; exact hl') h1 h2
  · intro j hl; exact .inl ⟨hlv j hl, rfl, rfl, fun _ _ => rfl⟩
  · intro j hj
    by_cases e : j = k
    · subst e; right; rw [upd_same]; exact VR_mono hok (Nat.le_refl _) hgoes _ hv
    · left; exact ⟨upd_ne _ _ e, rfl⟩
  · intro j hj
    by_cases e : j = k
    · subst e; rw [upd_same]; exact hy
    · rw [upd_ne _ _ e]; exact hr.keys j hj

/-- A slice in a slot is nil or is not. -/
theorem f_sl (k : Nat) {sz : Nat} {α : Type} {f : α → D} {z : α} {xs : List α} (hk4 : Nat.blt k 10000 = true) (hk : s k = .val (.list sz f z xs)) (h : ∀ b : Bool, (b = true → xs = []) → AWs P n l (upd s k (.val (.sl b (.list sz f z xs)))) Q) (hl : l ≠ []) : AWs P n l s Q := by
  match l, hl with
  | c :: l', _ =>
    rintro r X a w hX ⟨β, ν, hr⟩
    have hs := hr.slot k (blt_lt hk4)
    rw [hk] at hs
    obtain ⟨v, e, hv1, av, cap, hv2, hv3⟩ := hs
    simp only [List.cons.injEq, and_true] at e
    have hval : v = .slice av xs.length cap := by
      cases v <;> simp_all [Value.cells, vAgg, D.isAgg]
    refine h av.isNone (fun hb => ?_) r X a w hX ⟨β, ν, hr.slotAs (blt_lt hk4) rfl ?_⟩
    · cases xs with
      | nil => rfl
      | cons y ys =>
        obtain ⟨p, cs, e1, _⟩ := hv3.2.2.2 0 (by simp)
        rw [e1] at hb
        cases hb
    · rw [e]
      exact ⟨v, rfl, hv1, ⟨av, cap, hv2, hv3⟩, rfl, av, xs.length, cap, hv2, rfl⟩

theorem res_eq {fn : Func} {r r' : D} (h : Res P fn s r) (e : r = r') : Res P fn s r' := e ▸ h
theorem ends_ret {fn : Func} {r : D} (h : Res P fn s r) : Ends P fn r .ret s := ⟨.inl rfl, h⟩
theorem endsN_ret {fn : Func} {e sz by_ : Nat} {α : Type} {f : α → D} {xs : List α} (h : ResN P fn s e sz by_ f xs) : EndsN P fn e sz by_ f xs .ret s := ⟨.inl rfl, h⟩
theorem endsN_end {fn : Func} {e sz by_ : Nat} {α : Type} {f : α → D} {xs : List α} (h : ResN P fn s e sz by_ f xs) : EndsN P fn e sz by_ f xs .normal s := ⟨.inr rfl, h⟩
theorem ends_end {fn : Func} {r : D} (h : Res P fn s r) : Ends P fn r .normal s := ⟨.inr rfl, h⟩
end

section
variable {P : Program} {ok : Nat → Prop} {w : World}
theorem R_len : ∀ {c : D} {cs : List Value}, c.chain = true → R P c ok w cs → cs.length = c.len
  | .nil, cs, _, h => by simp only [R] at h; subst h; rfl
  | .cons a b, cs, hc, h => by obtain ⟨v, vs, rfl, _, _, h3⟩ := h; simp [D.len, R_len (c := b) hc h3]
  | .int .., _, hf, _ => by cases hf
  | .bool .., _, hf, _ => by cases hf
  | .str .., _, hf, _ => by cases hf
  | .agg .., _, hf, _ => by cases hf
  | .tup .., _, hf, _ => by cases hf
  | .list .., _, hf, _ => by cases hf
  | .fn .., _, hf, _ => by cases hf
  | .sl .., _, hf, _ => by cases hf
  | .any, _, hf, _ => by cases hf
  | .ptr .., _, hf, _ => by cases hf
  | .clp .., _, hf, _ => by cases hf
  | .ifc .., _, hf, _ => by cases hf
theorem z_nil : R P .nil ok w [] := rfl
theorem z_int {k : IntKind} {m : Int} {b : D} {vs : List Value} (h : R P b ok w vs) : R P (.cons (.int k m) b) ok w (.int k m :: vs) := ⟨_, _, rfl, rfl, rfl, h⟩
theorem z_bool {m : Bool} {b : D} {vs : List Value} (h : R P b ok w vs) : R P (.cons (.bool m) b) ok w (.bool m :: vs) := ⟨_, _, rfl, rfl, rfl, h⟩
theorem z_list {sz : Nat} {α : Type} {f : α → D} {z : α} {b : D} {vs : List Value} (h : R P b ok w vs) : R P (.cons (.list sz f z []) b) ok w (.slice none 0 0 :: vs) :=
  ⟨_, _, rfl, rfl, ⟨none, 0, rfl, Nat.le_refl _, Nat.zero_le _, Nat.zero_le _, fun _ hi => absurd hi (Nat.not_lt_zero _)⟩, h⟩
end

/-- Tests as propositions: one rule for 'simp only'. -/
theorem bs : (∀ (p : Prop) [Decidable p], (decide p = true) = p) ∧ (∀ (p : Prop) [Decidable p], (decide p = false) = ¬ p) ∧ (∀ a b : Bool, ((a || b) = true) = (a = true ∨ b = true)) ∧ (∀ a b : Bool, ((a && b) = true) = (a = true ∧ b = true)) ∧
    (∀ a b : Bool, ((a || b) = false) = (a = false ∧ b = false)) ∧ (∀ a b : Bool, ((a && b) = false) = (a = false ∨ b = false)) ∧ (∀ a : Bool, ((!a) = true) = (a = false)) ∧ (∀ a : Bool, ((!a) = false) = (a = true)) ∧
    (∀ a b : Bool, ((a == b) = true) = (a = b)) ∧ (∀ a b : Int, (¬ a < b) = (b ≤ a)) ∧ (∀ a b : Int, (¬ a ≤ b) = (b < a)) ∧ (∀ n : Nat, ((n : Int).toNat) = n) ∧ (∀ p : Prop, (¬ ¬ p) = p) := by
  refine ⟨fun p _ => by simp, fun p _ => by simp, fun a b => by simp, fun a b => by simp, fun a b => by simp, fun a b => by cases a <;> cases b <;> simp, fun a => by simp, fun a => by simp, fun a b => by simp, fun a b => by simp, fun a b => by simp, fun n => by simp, fun p => by simp⟩

/-! ### The forms of this program's data -/
abbrev iv (n : Int) : AV := .val (.int .i64 n)
abbrev bv (b : Bool) : AV := .val (.bool b)
abbrev di (n : Int) : D := .int .i64 n
abbrev ints (l : List Int) : D := .list 1 di 0 l
abbrev bools (l : List Bool) : D := .list 1 D.bool false l
abbrev intss (l : List (List Int)) : D := .list 1 ints [] l
abbrev boolss (l : List (List Bool)) : D := .list 1 bools [] l
abbrev st (l : D) : D := .agg l
abbrev fault (c a : Int) : D := .agg (.cons (di c) (.cons (di a) .nil))
abbrev dPar (p : List Int × Bool) : D := .agg (.cons (ints p.1) (.cons (.bool p.2) .nil))
abbrev pars (l : List (List Int × Bool)) : D := .list 2 dPar ([], false) l
abbrev dCho (p : Int × Int × Int) : D := .agg (.cons (di p.1) (.cons (di p.2.1) (.cons (di p.2.2) .nil)))
abbrev chos (l : List (Int × Int × Int)) : D := .list 3 dCho (0, 0, 0) l
abbrev cnf (n : Int) (l : List (List Int)) : D := .agg (.cons (di n) (.cons (intss l) .nil))
abbrev dia (l : List (Int × Int × Int)) (r : Int) : D := .agg (.cons (chos l) (.cons (di r) .nil))
abbrev trail (l w : List Int) (a : Int) : D := .agg (.cons (ints l) (.cons (ints w) (.cons (di a) .nil)))
abbrev two (a b : D) : D := .tup (.cons a (.cons b .nil))
abbrev three (a b c : D) : D := .tup (.cons a (.cons b (.cons c .nil)))
end Go.Um
