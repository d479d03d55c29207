/- From the readings of a row to the data of the walks, and back to the row's claim. No condition. -/
import Derived.Test.YtfjafkocejoigaaGreatBB
import Derived.ProofKit
import Derived.SizedLaws
namespace Go.Um
open Go Go.RowKit Go.ChangeShapes Go.WideShapes Go.ChangeAt

def Fits (k : IntKind) (n : Int) : Prop := (Lit.int k n).wf = true
def I64 (n : Int) : Prop := -9223372036854775808 ≤ n ∧ n ≤ 9223372036854775807

theorem fits_i64 {n : Int} (h : Fits .i64 n) : I64 n := by
  simpa [Fits, Lit.wf, IntKind.min, IntKind.max, IntKind.signed, IntKind.bits, I64] using h

theorem fits_u16 {n : Int} (h : Fits .u16 n) : 0 ≤ n ∧ n ≤ 65535 := by
  simpa [Fits, Lit.wf, IntKind.min, IntKind.max, IntKind.signed, IntKind.bits] using h
theorem fits_u8 {n : Int} (h : Fits .u8 n) : 0 ≤ n ∧ n ≤ 255 := by
  simpa [Fits, Lit.wf, IntKind.min, IntKind.max, IntKind.signed, IntKind.bits] using h
def Form (P : Program) (T : TypeId) (sz : Nat) {α : Type} (f : α → D) (G : α → Prop) : Prop :=
  ∀ {H : Type} (enc : TypeId × Value → H) (w : World) (spare : Nat → Bool) (held : Bool) (fuel : Nat) (cs : List Value) (d : DataW H) (ps : List MemPlace), DataW.trod enc P w 0 spare held fuel T cs = some (d, ps) →
    (d.weights P T).all (· ≤ reachBytes) = true → ∃ x, G x ∧ R P (f x) (fun b => b < w.heap.size) w cs ∧ cs.length = sz ∧ ∀ c ∈ cs, c.oneCell' = true

section
variable {P : Program} {T : TypeId}

theorem form_int {k : IntKind} (hT : P.underlying T = some (.int k)) : Form P T 1 (D.int k) (Fits k) := by
  intro H enc w spare held fuel cs d ps h _
  cases fuel with
  | zero => simp [DataW.trod] at h
  | succ fuel =>
    unfold DataW.trod at h
    simp only [hT] at h
    split at h <;> simp_all
    exact ⟨_, h.1.2, rfl, rfl⟩

theorem form_bool (hT : P.underlying T = some .bool) : Form P T 1 D.bool (fun _ => True) := by
  intro H enc w spare held fuel cs d ps h _
  cases fuel with
  | zero => simp [DataW.trod] at h
  | succ fuel =>
    unfold DataW.trod at h
    simp only [hT] at h
    split at h <;> simp_all
    rename_i b a
    cases b
    · exact ⟨.inl rfl, rfl⟩
    · exact ⟨.inr rfl, rfl⟩

theorem mapM_some {α β : Type} {g : α → Option β} : ∀ {l : List α} {ys : List β}, l.mapM g = some ys → ys.length = l.length ∧ ∀ i (h : i < l.length) (h' : i < ys.length), g l[i] = some ys[i]
  | [], ys, h => by simp at h; subst h; simp
  | x :: l, ys, h => by
    simp only [List.mapM_cons, Option.bind_eq_bind, Option.pure_def] at h
    obtain ⟨y, hy, h⟩ := Option.bind_eq_some_iff.1 h
    obtain ⟨ys', hys, h⟩ := Option.bind_eq_some_iff.1 h
    simp only [Option.some.injEq] at h
    subst h
    obtain ⟨h1, h2⟩ := mapM_some hys
    refine ⟨by simp [h1], fun i hi hi' => ?_⟩
    cases i with
    | zero => exact hy
    | succ i => exact h2 i (by simpa using hi) (by simpa using hi')

theorem cells_some {w : World} {a : Addr} {n : Nat} {cs : List Value} (h : w.cells? 0 a n = some cs) (hn : 0 < n) : a.spot = none ∧ a.block < w.heap.size ∧ cs.length = n ∧ cellsAt w a.block a.off cs := by
  simp only [World.cells?, Nat.zero_le, if_true] at h
  obtain ⟨h1, h2⟩ := mapM_some h
  simp at h1
  have h0 := h2 0 (by simpa using hn) (by omega)
  simp at h0
  have hsp : a.spot = none ∧ a.block < w.heap.size := by
    have e : a.add 0 = a := by simp [Addr.add]
    rw [e] at h0
    simp only [World.cell?] at h0
    split at h0
    · rename_i hb
      split at h0
      · cases h0
      · rename_i hs
        refine ⟨by cases hh : a.spot <;> simp_all, ?_⟩
        exact (Array.getElem?_eq_some_iff.1 hb).1
    · cases h0
  refine ⟨hsp.1, hsp.2, h1, fun j hj => ?_⟩
  have := h2 j (by simp; omega) hj
  simp at this
  rw [Addr.add_none hsp.1] at this
  exact this

theorem weights_mem {H : Type} {e : TypeId} : ∀ {l : List (DataW H)}, (DataW.weightsAll P e l).all (· ≤ reachBytes) = true → ∀ d ∈ l, (d.weights P e).all (· ≤ reachBytes) = true
  | [], _, d, hd => by cases hd
  | x :: l, h, d, hd => by
    simp only [DataW.weightsAll, List.all_append, Bool.and_eq_true] at h
    rcases List.mem_cons.1 hd with rfl | hd
    · exact h.1
    · exact weights_mem h.2 d hd

theorem form_slice {e sz by_ : Nat} {α : Type} {f : α → D} {G : α → Prop} (z : α) (hT : IsSlice P T e) (hs : Size P e sz) (hby : Bytes P e by_) (h0 : 0 < sz) (hb0 : 0 < by_) (hF : Form P e sz f G) : Form P T 1 (fun xs => D.list sz f z xs) (fun xs => ∀ x ∈ xs, G x) := by
  intro H enc w spare held fuel cs d ps h hw
  have hT' : P.underlying T = some (.slice e) := hT
  have hce : P.cellsOf e = sz := by unfold Size at hs; simp [Program.cellsOf, hs]
  have hbe : P.bytesOf e = by_ := by unfold Bytes at hby; simp [Program.bytesOf, hby]
  cases fuel with
  | zero => simp [DataW.trod] at h
  | succ fuel =>
    unfold DataW.trod at h
    simp only [hT'] at h
    split at h <;> first | (exfalso; simp at h; done) | skip
    all_goals try (rename_i hh; cases hh; done)
    · simp only [Option.some.injEq, Prod.mk.injEq] at h
      exact ⟨[], by simp, ⟨none, 0, rfl, Nat.le_refl _, Nat.zero_le _, Nat.zero_le _, fun i hi => by simp at hi⟩, rfl, by simp [Value.oneCell']⟩
    · rename_i e' a len cap heq
      cases heq
      split at h
      · rename_i hcond
        obtain ⟨elems, he, h⟩ := Option.bind_eq_some_iff.1 h
        obtain ⟨rest, hrest, h⟩ := Option.map_eq_some_iff.1 h
        simp only [Prod.mk.injEq] at h
        obtain ⟨hd, _⟩ := h
        subst hd
        obtain ⟨hl, hel⟩ := mapM_some he
        simp at hl
        simp only [DataW.weights, hT', List.all_cons, List.all_append, Bool.and_eq_true, decide_eq_true_eq] at hw
        have hlen : len ≤ 140737488355328 := by
          have h1 := hw.1
          simp only [List.length_map, hbe, hl, reachBytes] at h1
          have : len ≤ (len + rest.length) * by_ := Nat.le_trans (Nat.le_add_right _ _) (Nat.le_mul_of_pos_right _ hb0)
          omega
        have hex : ∀ i, i < len → ∃ x, G x ∧ ∃ p cs, some a = some p ∧ p.spot = none ∧ p.block < w.heap.size ∧ cs.length = sz ∧ (∀ c ∈ cs, c.oneCell' = true) ∧ cellsAt w p.block (p.off + i * sz) cs ∧ R P (f x) (fun b => b < w.heap.size) w cs := by
          intro i hi
          have h1 := hel i (by simpa using hi) (by omega)
          simp only [List.getElem_range] at h1
          obtain ⟨cs, hcs, htr⟩ := Option.bind_eq_some_iff.1 h1
          rw [hce] at hcs
          obtain ⟨g1, g2, g3, g4⟩ := cells_some hcs h0
          have hm : (elems[i]'(by omega)).1 ∈ elems.map (·.1) := List.mem_map.2 ⟨_, List.getElem_mem _, rfl⟩
          obtain ⟨x, hx1, hx2, hx3, hx4⟩ := hF enc w spare held fuel cs _ _ htr (weights_mem hw.2.1 _ hm)
          have hsp : a.spot = none := by
            by_cases ez : i * sz = 0
            · rw [ez] at g1; simpa [Addr.add] using g1
            · have h00 := hel 0 (by simp; omega) (by omega)
              simp only [List.getElem_range, Nat.zero_mul] at h00
              obtain ⟨cs0, hcs0, _⟩ := Option.bind_eq_some_iff.1 h00
              rw [hce] at hcs0
              have := (cells_some hcs0 h0).1
              simpa [Addr.add] using this
          rw [Addr.add_none hsp] at g2 g4
          exact ⟨x, hx1, a, cs, rfl, hsp, g2, hx3, hx4, g4, hx2⟩
        obtain ⟨xs, hxl, hxs⟩ := exists_list _ len hex
        refine ⟨xs, ?_, ⟨some a, cap, by rw [hxl], by rw [hxl]; exact hcond.2.1, hcond.2.2, by rw [hxl]; exact hlen, fun i hi => (hxs i hi).2⟩, rfl, by simp [Value.oneCell']⟩
        intro x hx
        obtain ⟨i, hi, rfl⟩ := List.getElem_of_mem hx
        exact (hxs i hi).1
      · cases h

theorem one_RV {d : D} {ok : Nat → Prop} {w : World} {c : Value} (hd : d.one = true) (h : R P d ok w [c]) (hc : c.oneCell' = true) : vAgg c = d.isAgg ∧ R P d ok w c.cells.toList := by
  have h1 : d.isAgg = false := by cases d <;> first | rfl | cases hd
  have h2 : vAgg c = false := by cases c <;> simp_all [vAgg, Value.oneCell']
  have h3 : c.cells.toList = [c] := by cases c <;> simp_all [Value.cells, Value.oneCell']
  exact ⟨by rw [h1, h2], by rw [h3]; exact h⟩

theorem trod_struct {H : Type} {enc : TypeId × Value → H} {w : World} {spare : Nat → Bool} {held : Bool} {fuel : Nat} {cs : List Value} {d : DataW H} {ps : List MemPlace} {fs : Array Field} (hT : P.underlying T = some (.struct fs)) (h : DataW.trod enc P w 0 spare held fuel T cs = some (d, ps)) :
    ∃ fuel' xs, cs.length = P.cellsOf T ∧ d = .agg (xs.map (·.1)) ∧ fs.toList.mapM (fun f => DataW.trod enc P w 0 spare held fuel' f.type ((cs.drop f.offset).take (P.cellsOf f.type))) = some xs := by
  cases fuel with
  | zero => simp [DataW.trod] at h
  | succ fuel =>
    unfold DataW.trod at h
    simp only [hT] at h
    split at h
    · obtain ⟨xs, h1, h2⟩ := Option.map_eq_some_iff.1 h
      simp only [Prod.mk.injEq] at h2
      exact ⟨fuel, xs, by assumption, h2.1.symm, h1⟩
    · cases h
theorem form_struct2 {F1 F2 : Field} {α β : Type} {f1 : α → D} {f2 : β → D} {G1 : α → Prop} {G2 : β → Prop} (hT : P.underlying T = some (.struct #[F1, F2])) (hs : Size P T 2) (o1 : F1.offset = 0) (o2 : F2.offset = 1) (s1 : Size P F1.type 1) (s2 : Size P F2.type 1)
    (h1 : Form P F1.type 1 f1 G1) (h2 : Form P F2.type 1 f2 G2) (k1 : ∀ x, (f1 x).one = true) (k2 : ∀ x, (f2 x).one = true) : Form P T 2 (fun p : α × β => D.agg (.cons (f1 p.1) (.cons (f2 p.2) .nil))) (fun p => G1 p.1 ∧ G2 p.2) := by
  intro H enc w spare held fuel cs d ps h hw
  obtain ⟨fuel', xs, hlen, rfl, hm⟩ := trod_struct hT h
  have c0 : P.cellsOf T = 2 := by unfold Size at hs; simp [Program.cellsOf, hs]
  have c1 : P.cellsOf F1.type = 1 := by unfold Size at s1; simp [Program.cellsOf, s1]
  have c2 : P.cellsOf F2.type = 1 := by unfold Size at s2; simp [Program.cellsOf, s2]
  rw [c0] at hlen
  match cs, hlen with
  | [a, b], _ =>
    obtain ⟨hl, hg⟩ := mapM_some hm
    match xs, hl with
    | [x, y], _ =>
      have e1 := hg 0 (by simp) (by simp)
      have e2 := hg 1 (by simp) (by simp)
      simp [o1, o2, c1, c2] at e1 e2
      simp only [DataW.weights, hT, List.map_cons, List.map_nil, DataW.weightsEach, List.append_nil, List.all_append, Bool.and_eq_true] at hw
      obtain ⟨p, q1, q2, q3, q4⟩ := h1 enc w spare held fuel' [a] _ _ e1 hw.1
      obtain ⟨p', r1, r2, r3, r4⟩ := h2 enc w spare held fuel' [b] _ _ e2 hw.2
      have m1 := one_RV (k1 p) q2 (q4 a (by simp))
      have m2 := one_RV (k2 p') r2 (r4 b (by simp))
      refine ⟨(p, p'), ⟨q1, r1⟩, ⟨a, [b], rfl, m1.1, m1.2, b, [], rfl, m2.1, m2.2, rfl⟩, rfl, ?_⟩
      intro c hc
      simp at hc
      rcases hc with rfl | rfl
      · exact q4 _ (by simp)
      · exact r4 _ (by simp)

theorem form_struct3 {F1 F2 F3 : Field} {α β γ : Type} {f1 : α → D} {f2 : β → D} {f3 : γ → D} {G1 : α → Prop} {G2 : β → Prop} {G3 : γ → Prop} (hT : P.underlying T = some (.struct #[F1, F2, F3])) (hs : Size P T 3) (o1 : F1.offset = 0) (o2 : F2.offset = 1) (o3 : F3.offset = 2)
    (s1 : Size P F1.type 1) (s2 : Size P F2.type 1) (s3 : Size P F3.type 1)
    (h1 : Form P F1.type 1 f1 G1) (h2 : Form P F2.type 1 f2 G2) (h3 : Form P F3.type 1 f3 G3) (k1 : ∀ x, (f1 x).one = true) (k2 : ∀ x, (f2 x).one = true) (k3 : ∀ x, (f3 x).one = true) :
    Form P T 3 (fun p : α × β × γ => D.agg (.cons (f1 p.1) (.cons (f2 p.2.1) (.cons (f3 p.2.2) .nil)))) (fun p => G1 p.1 ∧ G2 p.2.1 ∧ G3 p.2.2) := by
  intro H enc w spare held fuel cs d ps h hw
  obtain ⟨fuel', xs, hlen, rfl, hm⟩ := trod_struct hT h
  have c0 : P.cellsOf T = 3 := by unfold Size at hs; simp [Program.cellsOf, hs]
  have c1 : P.cellsOf F1.type = 1 := by unfold Size at s1; simp [Program.cellsOf, s1]
  have c2 : P.cellsOf F2.type = 1 := by unfold Size at s2; simp [Program.cellsOf, s2]
  have c3 : P.cellsOf F3.type = 1 := by unfold Size at s3; simp [Program.cellsOf, s3]
  rw [c0] at hlen
  match cs, hlen with
  | [a, b, c], _ =>
    obtain ⟨hl, hg⟩ := mapM_some hm
    match xs, hl with
    | [x, y, z], _ =>
      have e1 := hg 0 (by simp) (by simp)
      have e2 := hg 1 (by simp) (by simp)
      have e3 := hg 2 (by simp) (by simp)
      simp [o1, o2, o3, c1, c2, c3] at e1 e2 e3
      simp only [DataW.weights, hT, List.map_cons, List.map_nil, DataW.weightsEach, List.append_nil, List.all_append, Bool.and_eq_true] at hw
      obtain ⟨p, q1, q2, q3, q4⟩ := h1 enc w spare held fuel' [a] _ _ e1 hw.1
      obtain ⟨p', r1, r2, r3, r4⟩ := h2 enc w spare held fuel' [b] _ _ e2 hw.2.1
      obtain ⟨p'', t1, t2, t3, t4⟩ := h3 enc w spare held fuel' [c] _ _ e3 hw.2.2
      have m1 := one_RV (k1 p) q2 (q4 a (by simp))
      have m2 := one_RV (k2 p') r2 (r4 b (by simp))
      have m3 := one_RV (k3 p'') t2 (t4 c (by simp))
      refine ⟨(p, p', p''), ⟨q1, r1, t1⟩, ⟨a, [b, c], rfl, m1.1, m1.2, b, [c], rfl, m2.1, m2.2, c, [], rfl, m3.1, m3.2, rfl⟩, rfl, ?_⟩
      intro c' hc
      simp at hc
      rcases hc with rfl | rfl | rfl
      · exact q4 _ (by simp)
      · exact r4 _ (by simp)
      · exact t4 _ (by simp)
theorem arg_of {sz : Nat} {α : Type} {f : α → D} {G : α → Prop} (hF : Form P T sz f G) {b : Bool} (hag : IsAgg P T b) (hfa : ∀ x, (f x).isAgg = b) {H : Type} {enc : TypeId × Value → H} {W : World} {spare : Nat → Bool} {held : Bool} {base : Nat} {v : Value} {d : DataW H} {p : List MemPlace}
    (hok : Value.okWide P W .any base T v) (h : DataW.Trod enc P W 0 spare held T v d p) (hw : (d.weights P T).all (· ≤ reachBytes) = true) : ∃ x, G x ∧ ARel P (fun b => b < W.heap.size) W (.val (f x)) v := by
  obtain ⟨fuel, hf⟩ := h
  obtain ⟨x, h1, h2, h3, h4⟩ := hF enc W spare held fuel _ d p hf hw
  refine ⟨x, h1, v, rfl, ?_, h2⟩
  rw [hfa x]
  unfold IsAgg at hag
  obtain ⟨ds, hd, hb⟩ := Option.map_eq_some_iff.1 hag
  unfold Value.okWide at hok
  cases ds with
  | struct fs => simp [hd] at hok; obtain ⟨cs, rfl, _⟩ := hok; rw [← hb]; rfl
  | array k e => simp [hd] at hok; obtain ⟨cs, rfl, _⟩ := hok; rw [← hb]; rfl
  | _ =>
    simp only [aggDesc] at hb
    subst hb
    cases v <;> first | rfl | (simp [hd, Cell.okWide, Cell.ok] at hok)

theorem trodAll_below {H : Type} {enc : TypeId × Value → H} {W W' : World} (hl : laidOutB P = true) (hb : Below W.heap.size W W') : ∀ (ts : List TypeId) (vs : List Value) (ds : List (DataW H)) (ps : List MemPlace),
    (∀ t ∈ ts, P.readableRec t = true ∧ t < P.types.size) → (∀ x ∈ ps, x.block < W.heap.size) → DataW.TrodAll enc P W 0 (fun _ => true) true ts vs ds ps → DataW.TrodAll enc P W' 0 (fun b => decide (b < W.heap.size)) true ts vs ds ps
  | [], [], [], ps, _, _, h => h
  | t :: ts, v :: vs, d :: ds, ps, ht, hx, h => by
    obtain ⟨p, q, h1, h2, rfl⟩ := h
    refine ⟨p, q, Below.trod hl (ht t (by simp)).1 (ht t (by simp)).2 h1 hb (fun x hx' => hx x (by simp [hx'])), trodAll_below hl hb ts vs ds q (fun t' ht' => ht t' (by simp [ht'])) (fun x hx' => hx x (by simp [hx'])) h2, rfl⟩
  | [], [], _ :: _, _, _, _, h => h.elim
  | [], _ :: _, _, _, _, _, h => by cases h
  | _ :: _, [], _, _, _, _, h => by cases h
  | _ :: _, _ :: _, [], _, _, _, h => by cases h
theorem law_post {f : FuncId} {fn : Func} {s : ChangeSpec} {H : Type} {enc : TypeId × Value → H} {W : World} {args : Array Value} {ds : List (DataW H)} {before : List MemPlace} {B : TypeId} {avs : List AV}
    (hl : laidOutB P = true) (hvars : s.vars = []) (hW : DataW.Whole enc P fn.params.toList s.vars false W args.toList ds [] before) (hts : ∀ t ∈ fn.params.toList, P.readableRec t = true ∧ t < P.types.size)
    (hres : fn.resultTypes = #[B]) (hB : P.underlying B = some .bool) (hfn : s.fn H (ds ++ []) = { results := [.lit (.bool true)], args := ds })
    (hspec : Spec P f avs (.bool true)) (hargs : ArgsR P (fun b => b < W.heap.size) W avs args.toList) :
    Calls P f args W fun e W' => ∃ v, e = .returned v ∧ s.post enc P fn false true false false W args v W' := by
  have hc := hspec W (fun b => b < W.heap.size) args.toList (fun _ h => h) hargs
  rw [Array.toArray_toList] at hc
  refine hc.mono ?_
  rintro e W' ⟨v, rfl, hv, hbel⟩
  have hvb : v = .bool true := vr_bool (P := P) (w := W') (s := fun _ => .any) (β := fun _ => none) (ν := fun _ => undef) ⟨v, rfl, hv⟩
  subst hvb
  refine ⟨_, rfl, ?_⟩
  have hlt : ∀ x ∈ before, x.block < W.heap.size := fun x hx => hW.lt x hx
  obtain ⟨p, q, hA, hV, rfl, hfz, hnd⟩ := id hW
  rw [hvars] at hV
  obtain ⟨_, rfl⟩ := trodVars_none hV
  refine ⟨ds, [], p ++ [], [], p ++ [], [], hW, ?_, ?_, ?_, hbel.frame _, fun h => by cases h⟩
  · rw [hfn, hres]
    exact trodAll_mk1 (shut_bool hB true)
  · rw [hfn]
    simp only [List.append_nil] at hlt ⊢
    exact trodAll_below hl hbel.toBelow _ _ _ _ hts hlt hA
  · rw [hfn, hvars]
    rfl
end
end Go.Um
