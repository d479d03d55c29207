/- Operations that read memory: lengths, indexes, loads, fields, slices, structs. No condition. -/
import Derived.Test.YtpjenbbalengoaaOps
namespace Go.Um
open Go Go.RowKit

/-- Facts on the program's types, each a closed equation. -/
def IsSlice (P : Program) (T e : TypeId) : Prop := P.underlying T = some (.slice e)
def Size (P : Program) (T k : Nat) : Prop := (P.info? T).map (·.size) = some k
def aggDesc : TypeDesc → Bool
  | .struct _ => true
  | .array _ _ => true
  | _ => false
def IsAgg (P : Program) (T : TypeId) (b : Bool) : Prop := (P.underlying T).map aggDesc = some b
def fieldsOf : TypeDesc → Array Field
  | .struct fs => fs
  | _ => #[]
def IsField (P : Program) (T i off ft : Nat) : Prop := (P.underlying T).bind (fun d => match d with | .struct fs => (fs[i]?).map (fun f => (f.offset, f.type)) | _ => none) = some (off, ft)

theorem run_sizeOf {P : Program} {T k : Nat} (h : Size P T k) (w : World) : (sizeOf T).run P w = .ok k w := by
  unfold Size at h
  obtain ⟨i, hi, rfl⟩ := Option.map_eq_some_iff.1 h
  simp [sizeOf, typeInfo, hi]

theorem run_isAgg {P : Program} {T : TypeId} {b : Bool} (h : IsAgg P T b) (w : World) : (isAgg T).run P w = .ok b w := by
  unfold IsAgg at h
  obtain ⟨d, hd, rfl⟩ := Option.map_eq_some_iff.1 h
  cases d <;> simp [isAgg, underlying, hd, aggDesc]

theorem run_underlying' {P : Program} {T : TypeId} {d : TypeDesc} (h : P.underlying T = some d) (w : World) : (underlying T).run P w = .ok d w := by simp [underlying, h]

def D.one : D → Bool
  | .int .. => true
  | .bool _ => true
  | .str _ => true
  | .list .. => true
  | .fn .. => true
  | .sl .. => true
  | .any => true
  | .ptr .. => true
  | .clp .. => true
  | .ifc .. => true
  | _ => false

theorem R_one {P : Program} {d : D} {ok : Nat → Prop} {w : World} {cs : List Value} (hd : d.one = true) (h : R P d ok w cs) : ∃ v, cs = [v] ∧ RV P d ok w v := by
  cases d with
  | int k n => simp only [R] at h; exact ⟨_, h, rfl, rfl⟩
  | bool b => simp only [R] at h; exact ⟨_, h, rfl, rfl⟩
  | str b => simp only [R] at h; exact ⟨_, h, rfl, rfl⟩
  | list s f z xs => obtain ⟨a, cap, e, h'⟩ := h; exact ⟨_, e, rfl, a, cap, rfl, h'⟩
  | fn f g => obtain ⟨F, caps, e, h'⟩ := h; exact ⟨_, e, rfl, F, caps, rfl, h'⟩
  | sl b d => obtain ⟨h1, h2, a, l, c, e, h3⟩ := h; subst e; exact ⟨_, rfl, rfl, h1, h2, a, l, c, rfl, h3⟩
  | any => obtain ⟨v, e, h1⟩ := h; subst e; cases v <;> first | exact ⟨_, rfl, rfl, _, rfl, rfl⟩ | cases h1
  | ptr d => obtain ⟨p, cs, e, h'⟩ := h; exact ⟨_, e, rfl, p, cs, rfl, h'⟩
  | clp d => obtain ⟨h1, h2, a, l, e⟩ := h; subst e; exact ⟨_, rfl, rfl, h1, h2, a, l, rfl⟩
  | ifc T d => obtain ⟨v, e, h'⟩ := h; subst e; exact ⟨_, rfl, rfl, v, rfl, h'⟩
  | _ => cases hd

theorem RV_one {P : Program} {d : D} {ok : Nat → Prop} {w : World} {v : Value} (hd : d.one = true) (h : RV P d ok w v) : R P d ok w [v] ∧ v.oneCell' = true := by
  obtain ⟨h1, h2⟩ := h
  obtain ⟨u, e, hu⟩ := R_one hd h2
  have hna : vAgg v = false := by rw [h1]; cases d <;> first | rfl | cases hd
  have : v.cells.toList = [v] := by cases v <;> simp_all [Value.cells, vAgg]
  rw [this] at h2
  refine ⟨h2, ?_⟩
  cases d with
  | int k n => simp only [R] at h2; simp at h2; subst h2; rfl
  | bool b => simp only [R] at h2; simp at h2; subst h2; rfl
  | str b => simp only [R] at h2; simp at h2; subst h2; rfl
  | list s f z xs => obtain ⟨a, cap, e, h'⟩ := h2; simp at e; subst e; rfl
  | fn f g => obtain ⟨F, caps, e, h'⟩ := h2; simp at e; subst e; rfl
  | sl b d => obtain ⟨h1, h3, a, l, c, e, h4⟩ := h2; simp at e; subst e; rfl
  | any => obtain ⟨u, e, h3⟩ := h2; simp at e; subst e; exact h3
  | ptr d => obtain ⟨p, cs, e, h'⟩ := h2; simp at e; subst e; rfl
  | clp d => obtain ⟨h1, h3, a, l, e⟩ := h2; simp at e; subst e; rfl
  | ifc T d => obtain ⟨v, e, h'⟩ := h2; simp at e; subst e; rfl
  | _ => cases hd

/-- A chain as a list; its element at a place. -/
def D.nth : D → Nat → D
  | .cons a _, 0 => a
  | .cons _ b, i + 1 => b.nth i
  | _, _ => .nil

def D.len : D → Nat
  | .cons _ b => b.len + 1
  | _ => 0

theorem R_nth {P : Program} {ok : Nat → Prop} {w : World} : ∀ (c : D) {cs : List Value} (i : Nat), R P c ok w cs → i < c.len → ∃ v, cs[i]? = some v ∧ RV P (c.nth i) ok w v
  | .cons a b, cs, i, h, hi => by
    obtain ⟨v, vs, rfl, h1, h2, h3⟩ := h
    cases i with
    | zero => exact ⟨v, rfl, h1, h2⟩
    | succ i => exact R_nth b i h3 (by simpa [D.len] using hi)
  | .int .., _, _, _, hi => by simp [D.len] at hi
  | .bool .., _, _, _, hi => by simp [D.len] at hi
  | .str .., _, _, _, hi => by simp [D.len] at hi
  | .nil, _, _, _, hi => by simp [D.len] at hi
  | .agg .., _, _, _, hi => by simp [D.len] at hi
  | .tup .., _, _, _, hi => by simp [D.len] at hi
  | .list .., _, _, _, hi => by simp [D.len] at hi
  | .fn .., _, _, _, hi => by simp [D.len] at hi
  | .sl .., _, _, _, hi => by simp [D.len] at hi
  | .any, _, _, _, hi => by simp [D.len] at hi
  | .ptr .., _, _, _, hi => by simp [D.len] at hi
  | .clp .., _, _, _, hi => by simp [D.len] at hi
  | .ifc .., _, _, _, hi => by simp [D.len] at hi

/-- All lists within are of a length that memory bears. -/
def D.wf : D → Prop
  | .cons a b => a.wf ∧ b.wf
  | .agg c => c.wf
  | .tup c => c.wf
  | .list _ f _ xs => xs.length ≤ 140737488355328 ∧ ∀ x ∈ xs, (f x).wf
  | .sl _ d => d.wf
  | .ptr d => d.wf
  | .clp d => d.wf
  | .ifc _ d => d.wf
  | _ => True

theorem R_wf {P : Program} : ∀ (d : D) {ok : Nat → Prop} {w : World} {vs : List Value}, R P d ok w vs → d.wf := by
  intro d
  induction d with
  | cons a b iha ihb => intro ok w vs h; obtain ⟨v, vs', rfl, h1, h2, h3⟩ := h; exact ⟨iha h2, ihb h3⟩
  | agg c ih => intro ok w vs h; exact ih h
  | tup c ih => intro ok w vs h; obtain ⟨ws, rfl, h1⟩ := h; exact ih h1
  | sl b d ih => intro ok w vs h; exact ih h.1
  | ptr d ih => intro ok w vs h; obtain ⟨p, cs, rfl, _, _, _, _, h1⟩ := h; exact ih h1
  | clp d ih => intro ok w vs h; exact ih h.1
  | ifc T d ih => intro ok w vs h; obtain ⟨v, rfl, _, h1⟩ := h; exact ih h1
  | list s f z xs ih =>
    intro ok w vs h
    obtain ⟨a, cap, rfl, h1, h2, h3, h4⟩ := h
    refine ⟨h3, fun x hx => ?_⟩
    obtain ⟨i, hi, rfl⟩ := List.getElem_of_mem hx
    obtain ⟨p, cs, _, _, _, _, _, _, hr⟩ := h4 i hi
    exact ih _ hr
  | _ => intro ok w vs h; trivial

theorem AW.wf {P : Program} {n : Nm} {c : Code} {s : St} {Q : Exit → St → Prop} (x : Operand) {d : D} (hx : ev s x = .val d) (h : d.wf → AW P n c s Q) : AW P n c s Q := by
  rintro r X a w hX ⟨β, ν, hr⟩
  have := hr.eval x
  rw [hx] at this
  obtain ⟨v, _, hv⟩ := this
  exact h (R_wf d hv.2) r X a w hX ⟨β, ν, hr⟩

section
variable {P : Program} {s : St} {o : Oper} {X : Cx} {t : St} {a : Act} {w : World} {β : Nat → Option Nat} {ν : Nat → Value}

theorem vr_list {ok : Nat → Prop} {sz : Nat} {α : Type} {f : α → D} {z : α} {xs : List α} {v : Value} (h : VR P ok w s β ν (.val (.list sz f z xs)) [v]) :
    ∃ a cap, v = .slice a xs.length cap ∧ xs.length ≤ cap ∧ cap ≤ maxLen ∧ xs.length ≤ 140737488355328 ∧
      ∀ i (h : i < xs.length), ∃ p cs, a = some p ∧ p.spot = none ∧ ok p.block ∧ cs.length = sz ∧ (∀ c ∈ cs, c.oneCell' = true) ∧ cellsAt w p.block (p.off + i * sz) cs ∧ R P (f xs[i]) ok w cs := by
  obtain ⟨u, e, h1, h2⟩ := h
  simp only [List.cons.injEq, and_true] at e
  subst e
  have hv := (RV_one (d := .list sz f z xs) rfl ⟨h1, h2⟩).1
  obtain ⟨a, cap, e, h3⟩ := hv
  simp only [List.cons.injEq, and_true] at e
  exact ⟨a, cap, e, h3⟩

theorem p_len {x : Operand} {T e : TypeId} {sz : Nat} {α : Type} {f : α → D} {z : α} {xs : List α} (ho : o.op = .call { callee := .builtin .len, args := #[x], argTypes := #[T] }) (hT : IsSlice P T e)
    (hx : Sees (ev s x) (.val (.list sz f z xs))) : PStep P o (kx x) s (.val (.int .i64 xs.length)) := by
  intro X t a w β ν hk hr
  obtain ⟨ad, cap, hv, _⟩ := vr_list (hr.sees hk hx)
  refine ⟨rfl, .int .i64 xs.length, ?_, mk_int _ _ _⟩
  unfold IsSlice at hT
  simp [execOp, ho, resolve, invoke, builtin, Builtin.len_, run_underlying' hT, hv, goInt]

theorem p_len_emp {x : Operand} {T e : TypeId} (ho : o.op = .call { callee := .builtin .len, args := #[x], argTypes := #[T] }) (hT : IsSlice P T e)
    (hx : Sees (ev s x) .emp) : PStep P o (kx x) s (.val (.int .i64 0)) := by
  intro X t a w β ν hk hr
  have hv := hr.sees hk hx
  simp only [VR, List.cons.injEq, and_true] at hv
  refine ⟨rfl, .int .i64 0, ?_, mk_int _ _ _⟩
  unfold IsSlice at hT
  simp [execOp, ho, resolve, invoke, builtin, Builtin.len_, run_underlying' hT, hv, goInt]

theorem Sees.emp {a : AV} (e : a = .emp) (sz : Nat) {α : Type} (f : α → D) (z : α) : Sees a (.val (.list sz f z [])) := by
  subst e
  intro P ok w s β ν v hv
  simp only [VR, List.cons.injEq, and_true] at hv
  subst hv
  exact ⟨_, rfl, rfl, none, 0, rfl, Nat.le_refl _, Nat.zero_le _, Nat.zero_le _, fun i hi => by simp at hi⟩

theorem Addr.add_none {p : Addr} (h : p.spot = none) (n : Nat) : p.add n = ⟨p.block, p.off + n, none⟩ := by
  unfold Addr.add
  split
  · rename_i h0; subst h0; cases p; simp_all
  · rfl

theorem p_index {x i : Operand} {T e sz : Nat} {k : IntKind} {m : Int} {α : Type} {f : α → D} {z : α} {xs : List α} (ho : o.op = .indexAddr T x i) (hT : IsSlice P T e) (hs : Size P e sz)
    (hx : Sees (ev s x) (.val (.list sz f z xs))) (hi : Sees (ev s i) (.val (.int k m))) (h0 : 0 ≤ m) (h1 : m < xs.length) : PStep P o (kx x ++ kx i) s (.ptr (f (xs.getD m.toNat z))) := by
  intro X t a w β ν hk hr
  obtain ⟨ad, cap, hv, _, _, _, hc⟩ := vr_list (hr.sees (kl hk) hx)
  have hlt : m.toNat < xs.length := by omega
  obtain ⟨p, cs, rfl, hp, hok, hl, h1c, hcell, hR⟩ := hc m.toNat hlt
  refine ⟨rfl, .pointer (some (p.add (m.toNat * sz))), ?_, ?_⟩
  · unfold IsSlice at hT
    have := hr.int (kr hk) hi
    simp [execOp, ho, Instr.indexAt, this, hv, asIntOf, run_underlying' hT, run_sizeOf hs, h0, h1]
  · rw [Addr.add_none hp]
    refine ⟨_, cs, rfl, rfl, hok, h1c, hcell, ?_⟩
    have : xs.getD m.toNat z = xs[m.toNat] := by simp [List.getD, hlt]
    rw [this]
    exact hR

theorem p_indexN {x i : Operand} {T e sz : Nat} {k : IntKind} {m : Nat} {α : Type} {f : α → D} {z : α} {xs : List α} (ho : o.op = .indexAddr T x i) (hT : IsSlice P T e) (hs : Size P e sz)
    (hx : Sees (ev s x) (.val (.list sz f z xs))) (hi : Sees (ev s i) (.val (.int k (m : Int)))) (h1 : m < xs.length) : PStep P o (kx x ++ kx i) s (.ptr (f (xs.getD m z))) := by
  have := p_index (P := P) ho hT hs hx hi (by omega) (by omega)
  simpa using this

theorem vr_ptr {ok : Nat → Prop} {d : D} {v : Value} (h : VR P ok w s β ν (.ptr d) [v]) : ∃ p cs, v = .pointer (some p) ∧ p.spot = none ∧ ok p.block ∧ (∀ c ∈ cs, c.oneCell' = true) ∧ cellsAt w p.block p.off cs ∧ R P d ok w cs := by
  obtain ⟨p, cs, e, h⟩ := h
  simp only [List.cons.injEq, and_true] at e
  exact ⟨p, cs, e, h⟩

/-- A load of one cell. -/
theorem p_load {x : Operand} {T : TypeId} {d : D} (ho : o.op = .load T x) (hT : IsAgg P T false) (hx : Sees (ev s x) (.ptr d)) (hd : d.one = true) : PStep P o (kx x) s (.val d) := by
  intro X t a w β ν hk hr
  obtain ⟨p, cs, hv, hp, hok, h1c, hcell, hR⟩ := vr_ptr (hr.sees hk hx)
  obtain ⟨v, rfl, hvr⟩ := R_one hd hR
  refine ⟨rfl, v, ?_, ⟨v, rfl, hvr⟩⟩
  have hc := hcell 0 (by simp)
  have : (⟨p.block, p.off + 0, none⟩ : Addr) = p := by cases p; simp_all
  rw [this] at hc
  simp [execOp, ho, Instr.loadAt, hv, Instr.sureAddr, loadVar, run_isAgg hT, hc]

/-- A load of a struct. -/
theorem p_loadS {x : Operand} {T k : Nat} {c : D} (ho : o.op = .load T x) (hT : IsAgg P T true) (hs : Size P T k) (hx : Sees (ev s x) (.ptr (.agg c))) (hk' : c.len = k ∧ ∀ {P : Program} {ok : Nat → Prop} {w : World} {cs : List Value}, R P c ok w cs → cs.length = k) :
    PStep P o (kx x) s (.val (.agg c)) := by
  intro X t a w β ν hk hr
  obtain ⟨p, cs, hv, hp, hok, h1c, hcell, hR⟩ := vr_ptr (hr.sees hk hx)
  have hl := hk'.2 hR
  subst hl
  refine ⟨rfl, .agg cs.toArray, ?_, ⟨_, rfl, rfl, by simpa [Value.cells] using hR⟩⟩
  have hlc := run_loadCells_list (P := P) w p cs (fun j v hj => by
    obtain ⟨hj', rfl⟩ := List.getElem?_eq_some_iff.1 hj
    rw [Addr.add_none hp]
    exact hcell j hj')
  simp [execOp, ho, Instr.loadAt, hv, Instr.sureAddr, loadVar, run_isAgg hT, run_sizeOf hs, hlc]

theorem p_fieldAddr {x : Operand} {T i off ft k : Nat} {c : D} (ho : o.op = .fieldAddr T x i) (hF : IsField P T i off ft) (hs : Size P ft k) (hk0 : 0 < k) (hx : Sees (ev s x) (.ptr (.agg c))) (hi : Nat.blt off c.len = true) (hd : (c.nth off).one = true) :
    PStep P o (kx x) s (.ptr (c.nth off)) := by
  replace hi := blt_lt hi
  intro X t a w β ν hk hr
  obtain ⟨p, cs, hv, hp, hok, h1c, hcell, hR⟩ := vr_ptr (hr.sees hk hx)
  obtain ⟨v, hcv, hvr⟩ := R_nth c off hR hi
  obtain ⟨hoff, rfl⟩ := List.getElem?_eq_some_iff.1 hcv
  refine ⟨rfl, .pointer (some (p.add off)), ?_, ?_⟩
  · unfold IsField at hF
    obtain ⟨dsc, h1, h2⟩ := Option.bind_eq_some_iff.1 hF
    cases dsc <;> simp at h2
    rename_i fs
    obtain ⟨fld, h3, h4, h5⟩ := h2
    subst h4 h5
    simp [execOp, ho, Instr.fieldAt, hv, Instr.sureAddr, run_underlying' h1, h3, fieldPlace, run_sizeOf hs, Nat.ne_of_gt hk0]
  · rw [Addr.add_none hp]
    refine ⟨_, [cs[off]], rfl, rfl, hok, fun c hc => h1c c (by simp at hc; subst hc; exact List.getElem_mem _), ?_, (RV_one hd hvr).1⟩
    intro j hj
    obtain rfl : j = 0 := by simp at hj; omega
    simpa using hcell off hoff

theorem p_field {x : Operand} {T i off ft : Nat} {c : D} (ho : o.op = .field T x i) (hF : IsField P T i off ft) (hf : IsAgg P ft false) (hx : Sees (ev s x) (.val (.agg c))) (hi : Nat.blt off c.len = true) : PStep P o (kx x) s (.val (c.nth off)) := by
  replace hi := blt_lt hi
  intro X t a w β ν hk hr
  obtain ⟨v, e, h1, h2⟩ := hr.sees hk hx
  simp only [List.cons.injEq, and_true] at e
  subst e
  have hag : ∃ cs : Array Value, a.eval x = .agg cs := by
    generalize a.eval x = u at h1
    cases u <;> simp [vAgg, D.isAgg] at h1
    exact ⟨_, rfl⟩
  obtain ⟨cs, hcs⟩ := hag
  rw [hcs] at h2
  obtain ⟨u, hu, hur⟩ := R_nth c off (by simpa [R, Value.cells] using h2) hi
  refine ⟨rfl, u, ?_, ⟨u, rfl, hur⟩⟩
  unfold IsField at hF
  obtain ⟨dsc, h1, h3⟩ := Option.bind_eq_some_iff.1 hF
  cases dsc <;> simp at h3
  rename_i fs
  obtain ⟨fld, h4, h5, h6⟩ := h3
  subst h5 h6
  have : cs[fld.offset]? = some u := by simpa using hu
  simp [execOp, ho, Instr.field, hcs, asAgg, run_underlying' h1, h4, part, run_isAgg hf, this]

theorem p_extract {x : Operand} {i : Nat} {c : D} (ho : o.op = .extract x i) (hx : Sees (ev s x) (.val (.tup c))) (hi : Nat.blt i c.len = true) : PStep P o (kx x) s (.val (c.nth i)) := by
  replace hi := blt_lt hi
  intro X t a w β ν hk hr
  obtain ⟨v, e, h1, h2⟩ := hr.sees hk hx
  simp only [List.cons.injEq, and_true] at e
  subst e
  obtain ⟨ws, hws, hR⟩ := h2
  have : a.eval x = .tuple ws := by
    generalize a.eval x = u at h1 hws
    cases u <;> simp_all [Value.cells, vAgg, D.isAgg]
  obtain ⟨u, hu, hur⟩ := R_nth c i hR hi
  refine ⟨rfl, u, ?_, ⟨u, rfl, hur⟩⟩
  have hu' : ws[i]? = some u := by simpa using hu
  simp [execOp, ho, Instr.extract, this, hu']

def Bnd (s : St) (q : Option Operand) (dflt l : Nat) : Prop :=
  match q with
  | none => l = dflt
  | some q => Sees (ev s q) (.val (.int .i64 l))

/-- 'x[lo:hi]' of a slice that is read. -/
theorem p_slice {x : Operand} {lo hi : Option Operand} {T e sz : Nat} {l h : Nat} {α : Type} {f : α → D} {z : α} {xs : List α} (ho : o.op = .slice T x lo hi none) (hT : IsSlice P T e) (hs : Size P e sz)
    (hx : Sees (ev s x) (.val (.list sz f z xs))) (hlo : Bnd s lo 0 l) (hhi : Bnd s hi xs.length h)
    (h1 : l ≤ h) (h2 : h ≤ xs.length) : PStep P o (kx x ++ (lo.elim [] kx ++ hi.elim [] kx)) s (.val (.list sz f z ((xs.drop l).take (h - l)))) := by
  intro X t a w β ν hk hr
  obtain ⟨ad, cap, hv, hcap, hmax, hlim, hc⟩ := vr_list (hr.sees (kl hk) hx)
  have hlen : ((xs.drop l).take (h - l)).length = h - l := by simp; omega
  refine ⟨rfl, .slice (if cap = l then ad else ad.map (·.add (l * sz))) (h - l) (cap - l), ?_, ?_⟩
  · have hlo' : ∀ q, lo = some q → a.eval q = .int .i64 l := by
      rintro q rfl
      exact hr.int (fun k hk' => hk k (by simp [hk'])) hlo
    have hhi' : ∀ q, hi = some q → a.eval q = .int .i64 h := by
      rintro q rfl
      exact hr.int (fun k hk' => hk k (by simp [hk'])) hhi
    have hT' : P.underlying T = some (.slice e) := hT
    have e1 : ¬ h < l := by omega
    have e2 : ¬ cap < h := by omega
    have e3 : ¬ xs.length < l := by omega
    cases lo with
    | none =>
      simp only [Bnd] at hlo
      subst hlo
      cases hi with
      | none => simp only [Bnd] at hhi; subst hhi; simp [execOp, ho, Instr.sliceAt, Instr.slice, Instr.sliceBounds, run_underlying' hT', run_sizeOf hs, hv]
      | some q => simp [execOp, ho, Instr.sliceAt, Instr.slice, Instr.sliceBounds, Instr.sliceBound, asIntOf, run_underlying' hT', run_sizeOf hs, hv, hhi' q rfl]; intro hh; exact absurd hh e2
    | some q' =>
      cases hi with
      | none => simp only [Bnd] at hhi; subst hhi; simp [execOp, ho, Instr.sliceAt, Instr.slice, Instr.sliceBounds, Instr.sliceBound, asIntOf, run_underlying' hT', run_sizeOf hs, hv, hlo' q' rfl, h1]
      | some q => simp [execOp, ho, Instr.sliceAt, Instr.slice, Instr.sliceBounds, Instr.sliceBound, asIntOf, run_underlying' hT', run_sizeOf hs, hv, hlo' q' rfl, hhi' q rfl, h1, Nat.le_of_not_lt e2]
  · refine ⟨_, rfl, rfl, _, cap - l, by rw [hlen]; rfl, by rw [hlen]; omega, by omega, by rw [hlen]; omega, fun i hi => ?_⟩
    rw [hlen] at hi
    obtain ⟨p, cs, rfl, hp, hok, hl, h1c, hcell, hR⟩ := hc (l + i) (by omega)
    refine ⟨⟨p.block, p.off + l * sz, none⟩, cs, ?_, rfl, hok, hl, h1c, ?_, ?_⟩
    · rw [if_neg (by omega)]
      simp [Addr.add_none hp]
    · rw [Nat.add_mul, ← Nat.add_assoc] at hcell
      exact hcell
    · simpa using hR
end
end Go.Um
