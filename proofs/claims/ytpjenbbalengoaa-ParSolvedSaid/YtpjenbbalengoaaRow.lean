/- Rows of a call's own: append, literals, reads, stores, freezing. No condition. -/
import Derived.Test.YtpjenbbalengoaaLit
import Derived.ArgAppend
namespace Go.Um
open Go Go.RowKit

def Bytes (P : Program) (T k : Nat) : Prop := (P.info? T).map (·.bytes) = some k

section
variable {P : Program} {n : Nat} {ops : Array Oper} {s : St} {o : Oper}

theorem flat_len {sz : Nat} : ∀ (l : List (List Value)), (∀ c ∈ l, c.length = sz) → l.flatten.length = l.length * sz
  | [], _ => by simp
  | c :: l, h => by
    have := flat_len l (fun x hx => h x (by simp [hx]))
    simp only [List.flatten_cons, List.length_append, List.length_cons, h c (by simp), this]
    rw [Nat.add_mul, Nat.one_mul, Nat.add_comm]

theorem flat_get {sz : Nat} : ∀ (l : List (List Value)) (i : Nat) (h : i < l.length), (∀ c ∈ l, c.length = sz) → (l.flatten.drop (i * sz)).take sz = l[i]
  | [], i, h, _ => by simp at h
  | c :: l, 0, h, hs => by
    have h1 := hs c (by simp)
    simp only [List.flatten_cons, Nat.zero_mul, List.drop_zero, List.getElem_cons_zero]
    rw [← h1, List.take_left]
  | c :: l, i + 1, h, hs => by
    have h1 := hs c (by simp)
    have := flat_get l i (by simpa using h) (fun u hu => hs u (by simp [hu]))
    simp only [List.getElem_cons_succ, List.flatten_cons]
    rw [← this, Nat.add_mul, Nat.one_mul, Nat.add_comm, ← List.drop_drop]
    congr 2
    rw [← h1, List.drop_left]

theorem flat_at {sz : Nat} {l : List (List Value)} (hs : ∀ c ∈ l, c.length = sz) {j : Nat} {u : Value} (h : l.flatten[j]? = some u) (h0 : 0 < sz) : ∃ (hi : j / sz < l.length), l[j / sz][j % sz]? = some u := by
  have hlt := (List.getElem?_eq_some_iff.1 h).1
  rw [flat_len l hs] at hlt
  have hi : j / sz < l.length := Nat.div_lt_of_lt_mul (by rw [Nat.mul_comm]; exact hlt)
  refine ⟨hi, ?_⟩
  rw [← flat_get l (j / sz) hi hs, List.getElem?_take, if_pos (Nat.mod_lt _ h0), List.getElem?_drop]
  rw [Nat.mul_comm, Nat.div_add_mod]
  exact h

/-- What a source of an append holds: its cells. -/
def Src (P : Program) (ok : Nat → Prop) (w : World) (sz : Nat) {α : Type} (f : α → D) (ys : List α) (v : Value) : Prop :=
  ∃ (ad : Option Addr) (cap : Nat) (news : List Value), v = .slice ad ys.length cap ∧ news.length = ys.length * sz ∧ (ad = none → ys = []) ∧ (∀ a, ad = some a → ∀ j u, news[j]? = some u → w.cell? (a.add j) = some u) ∧
    (∀ u ∈ news, u.oneCell' = true) ∧ ∀ i (h : i < ys.length), R P (f ys[i]) ok w ((news.drop (i * sz)).take sz)

/-- A list that is read, as a source. -/
theorem src_list {ok : Nat → Prop} {w : World} {β : Nat → Option Nat} {ν : Nat → Value} {sz : Nat} {α : Type} {f : α → D} {z : α} {ys : List α} {v : Value} (h0 : 0 < sz) (h : VR P ok w s β ν (.val (.list sz f z ys)) [v]) : Src P ok w sz f ys v := by
  obtain ⟨a, cap, hv, hcap, hmax, hlim, hc⟩ := vr_list h
  obtain ⟨css, hcl, hcs⟩ := exists_list (fun i (cs : List Value) => ∀ (h : i < ys.length), ∃ p, a = some p ∧ p.spot = none ∧ cs.length = sz ∧ (∀ c ∈ cs, c.oneCell' = true) ∧ cellsAt w p.block (p.off + i * sz) cs ∧ R P (f ys[i]) ok w cs) ys.length
    (fun i hi => by obtain ⟨p, cs, h1, h2, _, h3, h4, h5, h6⟩ := hc i hi; exact ⟨cs, fun _ => ⟨p, h1, h2, h3, h4, h5, h6⟩⟩)
  have hsz : ∀ c ∈ css, c.length = sz := by
    intro c hcm
    obtain ⟨i, hi, rfl⟩ := List.getElem_of_mem hcm
    obtain ⟨p, _, _, h3, _⟩ := hcs i hi (by omega)
    exact h3
  refine ⟨a, cap, css.flatten, hv, by rw [flat_len css hsz, hcl], ?_, ?_, ?_, ?_⟩
  · intro ha
    cases ys with
    | nil => rfl
    | cons y ys => obtain ⟨p, cs, h1, _⟩ := hc 0 (by simp); rw [ha] at h1; cases h1
  · intro ad had j u hj
    obtain ⟨hi, hju⟩ := flat_at hsz hj h0
    obtain ⟨p, h1, h2, h3, h4, h5, h6⟩ := hcs (j / sz) hi (by omega)
    rw [had] at h1
    cases h1
    obtain ⟨hj', rfl⟩ := List.getElem?_eq_some_iff.1 hju
    have := h5 (j % sz) hj'
    rw [Addr.add_none h2]
    rw [show ad.off + j = ad.off + j / sz * sz + j % sz by rw [Nat.add_assoc, Nat.div_add_mod']]
    exact this
  · intro u hu
    obtain ⟨c, hcm, huc⟩ := List.mem_flatten.1 hu
    obtain ⟨i, hi, rfl⟩ := List.getElem_of_mem hcm
    obtain ⟨p, _, _, _, h4, _⟩ := hcs i hi (by omega)
    exact h4 u huc
  · intro i hi
    rw [flat_get css i (by omega) hsz]
    obtain ⟨p, _, _, _, _, _, h6⟩ := hcs i (by omega) hi
    exact h6

theorem run_append_none (base : Nat) (t ty e : TypeId) (i : TypeInfo) (size : Nat) (ht : P.underlying t = some (.slice e)) (hi : P.info? e = some i) (v : Value) (m c : Nat) (xs : List Value) (w : World) (hown : w.ownsRow base e size v m xs) :
    (Builtin.append_ #[t, t] ty #[v, .slice none 0 c]).run P w = .ok v w := by
  rcases hown.2 with ⟨rfl, rfl⟩ | ⟨g, cap, cur, rfl, _, _, hnc, _⟩
  · simp [Builtin.append_, run_underlying' ht, sizeOf, typeInfo, hi, Builtin.lenOf, Builtin.firstCells]
  · simp [Builtin.append_, run_underlying' ht, sizeOf, typeInfo, hi, Builtin.lenOf, Builtin.firstCells, hnc, storeCells]

theorem grown_refl (w : World) (row : Option Nat) : w.grownBy w row := ⟨rfl, rfl, rfl, Nat.le_refl _, fun _ _ _ => rfl⟩

theorem ask_drawn {α : Type} (q : Ask α) : ∀ (w : World), w.drawn ≤ (w.ask q).2.drawn := by
  induction q with
  | done a => intro w; exact Nat.le_refl _
  | ask what range k ih =>
    intro w
    simp only [World.ask]
    split
    · exact ih _ w
    · exact Nat.le_trans (Nat.le_succ w.drawn) (ih _ { w with drawn := w.drawn + 1 })

theorem sys_drawn (w : World) (c : Sys) : w.drawn ≤ (w.sys c).2.drawn := by
  unfold World.sys
  have h := ask_drawn (Kernel.perform c w.os) w
  split
  · exact Nat.le_refl _
  · rename_i e
    rw [e] at h
    exact h

theorem viewStore_drawn {p : Program} {w w' : World} {at_ a : Addr} {u : TypeId} {v : Value} {b : Bool} {x : List Addr} (h : w.viewStore p at_ u a v b = .ok (w', x)) : w'.drawn = w.drawn := by
  simp only [World.viewStore, bind, Except.bind, pure, Except.pure, throw, throwThe, MonadExceptOf.throw] at h
  repeat' split at h
  all_goals first | (cases h; done) | (simp only [Except.ok.injEq, Prod.mk.injEq] at h; obtain ⟨rfl, _⟩ := h; rfl)

theorem farStore_drawn {p : Program} {w w' : World} {a : Addr} {v : Value} {b : Bool} {x : List Addr} (h : w.farStore p a v b = .ok (w', x)) : w'.drawn = w.drawn := by
  unfold World.farStore at h
  split at h
  · split at h
    · rename_i r hr
      cases h
      exact viewStore_drawn hr
    · cases h
  · cases h

theorem setCell_drawn (w : World) (a : Addr) (v : Value) : (w.setCell a v).drawn = w.drawn := rfl
theorem freeze_drawn (w : World) (a : Addr) (n : Nat) : (w.freeze a n).drawn = w.drawn := by unfold World.freeze; split <;> rfl

/-- What is carried out draws; it never takes a draw back. -/
theorem sem_drawn {α : Type} {p : Program} (s : Sem α) : ∀ {w w' : World} {v : α}, s.run p w = .ok v w' → w.drawn ≤ w'.drawn := by
  induction s with
  | pure a => intro w w' v h; simp only [Sem.run] at h; cases h; exact Nat.le_refl _
  | load m a k ih =>
    intro w w' v h
    simp only [Sem.run] at h
    split at h
    · exact ih _ h
    · split at h
      · exact ih _ h
      · cases h
  | store m a u k ih =>
    intro w w' v h
    have key : ∀ {h0 : Halt} {w1 : World}, (Result.halt h0 w1 : Result α) ≠ .ok v w' := fun h => by cases h
    have fin : (match w.cell? a with
        | some _ => if w.frozen? a then Result.halt (.unsupported (.unsafePointer "a write to bytes that a string shares")) w else k.run p (w.setCell a u)
        | none => match w.farStore p a u (m == Mode.atomic) with
          | .ok (w, _) => k.run p w
          | .error h => .halt h w) = .ok v w' → w.drawn ≤ w'.drawn := by
      intro h
      split at h
      · split at h
        · exact absurd h key
        · have := ih h; rwa [setCell_drawn] at this
      · split at h
        · rename_i e; have := ih h; rwa [farStore_drawn e] at this
        · exact absurd h key
    cases u with
    | agg _ => simp only [Sem.run] at h; exact absurd h key
    | tuple _ => simp only [Sem.run] at h; exact absurd h key
    | _ => simp only [Sem.run] at h; exact fin h
  | new o k ih => intro w w' v h; simp only [Sem.run] at h; have := ih _ h; exact this
  | shape r k ih => intro w w' v h; simp only [Sem.run] at h; exact ih _ h
  | freeze a n k ih => intro w w' v h; simp only [Sem.run] at h; have := ih h; rw [freeze_drawn] at this; exact this
  | frozen a k ih => intro w w' v h; simp only [Sem.run] at h; exact ih _ h
  | getObj r k ih =>
    intro w w' v h
    simp only [Sem.run] at h
    split at h
    · cases h
    · exact ih _ h
    · cases h
  | setObj r o k ih =>
    intro w w' v h
    simp only [Sem.run] at h
    split at h
    · cases h
    · have := ih h; exact this
    · cases h
  | choose q k ih =>
    intro w w' v h
    simp only [Sem.run] at h
    split at h
    · exact ih _ h
    · exact Nat.le_trans (Nat.le_succ w.drawn) (ih _ h)
  | sys c k ih => intro w w' v h; simp only [Sem.run] at h; exact Nat.le_trans (sys_drawn w c) (ih _ h)
  | program k ih => intro w w' v h; simp only [Sem.run] at h; exact ih _ h
  | mark m k ih => intro w w' v h; simp only [Sem.run] at h; exact ih h
  | halt h0 => intro w w' v h; simp only [Sem.run] at h; cases h

theorem run_append_src {T ty e sz by_ : Nat} {z : Value} (hT : IsSlice P T e) (hs : Size P e sz) (hby : Bytes P e by_) (hz : Zero P e z) (hzs : z.cells.size = sz) (h0 : 0 < sz) {w : World} {v v2 : Value} {m : Nat} {xs : List Value} {ok : Nat → Prop} {α : Type} {f : α → D} {ys : List α}
    (hown : w.ownsRow 0 e sz v m xs) (hsrc : Src P ok w sz f ys v2) (hm : m + ys.length ≤ maxLen) (hb : (m + ys.length) * by_ ≤ 140737488355328) :
    ∃ v' w' news, (Builtin.append_ #[T, T] ty #[v, v2]).run P w = .ok v' w' ∧ w'.ownsRow 0 e sz v' (m + ys.length) (xs ++ news) ∧ w.grownBy w' v.ownBlock ∧ news.length = ys.length * sz ∧ (∀ u ∈ news, u.oneCell' = true) ∧
      (∀ i (h : i < ys.length), R P (f ys[i]) ok w ((news.drop (i * sz)).take sz)) ∧ ∀ b, v'.ownBlock = some b → v.ownBlock = some b ∨ w.heap.size ≤ b := by
  obtain ⟨ad, cap, news, rfl, hl, hn, hc, h1, hR⟩ := hsrc
  have hT' : P.underlying T = some (.slice e) := hT
  obtain ⟨i, hi, hiz⟩ := Option.bind_eq_some_iff.1 hz
  have his : i.size = sz := by unfold Size at hs; rw [hi] at hs; simpa using hs
  have hib : i.bytes = by_ := by unfold Bytes at hby; rw [hi] at hby; simpa using hby
  cases ad with
  | none =>
    have hy := hn rfl
    subst hy
    have hnn : news = [] := by simpa using hl
    subst hnn
    exact ⟨v, w, [], run_append_none 0 T ty e i sz hT' hi v m cap xs w hown, by simpa using hown, grown_refl _ _, by simp, by simp, fun i h => by simp at h, fun b hb' => .inl hb'⟩
  | some a =>
    obtain ⟨v', w', g1, g2, g3, _⟩ := run_append_own (P := P) w 0 T ty e i z sz by_ hT' hi hiz his hib hzs h0 v m xs hown a ys.length cap news hl (hc a rfl) h1 hm hb (Nat.zero_le _)
    refine ⟨v', w', news, g1, g2, g3, hl, h1, hR, ?_⟩
    rcases hown.2 with ⟨rfl, rfl⟩ | ⟨g, cp, cur, rfl, _, hg, hnc, hcm, hcs, htake⟩
    · obtain ⟨v2, w2, k1, k2, _, _⟩ := run_append_own (P := P) w w.heap.size T ty e i z sz by_ hT' hi hiz his hib hzs h0 (.slice none 0 0) 0 xs ⟨hown.1, .inl ⟨rfl, rfl⟩⟩ a ys.length cap news hl (hc a rfl) h1 hm hb (Nat.le_refl _)
      rw [g1] at k1
      cases k1
      intro b hb'
      exact .inr (k2.lt b hb').1
    · by_cases hroom : m + ys.length ≤ cp
      · have hfit : m * i.size + news.length ≤ cur.size := by rw [hl, hcs, his, ← Nat.add_mul]; exact Nat.mul_le_mul_right _ hroom
        have hr := run_append_room (P := P) w T ty e i hT' hi g m cp cur hg a ys.length cap news (by rw [his]; exact hl) (hc a rfl) h1 hroom hfit
        rw [g1] at hr
        cases hr
        intro b hb'
        exact .inl hb'
      · obtain ⟨v2, w2, k1, k2, _⟩ := run_append_arg_grows (P := P) w T ty e i z sz by_ hT' hi hiz his hib hzs h0 ⟨g, 0, none⟩ m cp xs hown.1 (hown.cells (g := g) rfl) a ys.length cap news hl (hc a rfl) (by omega) hm hb
        rw [g1] at k1
        cases k1
        intro b hb'
        exact .inr (k2.lt b hb').1

/-- The cells of two rows, one behind the other. -/
theorem rows_append {ok : Nat → Prop} {w : World} {sz : Nat} {α : Type} {f : α → D} {xs ys : List α} {cx cy : List Value} (hx : cx.length = xs.length * sz) (hX : ∀ i (h : i < xs.length), R P (f xs[i]) ok w ((cx.drop (i * sz)).take sz))
    (hY : ∀ i (h : i < ys.length), R P (f ys[i]) ok w ((cy.drop (i * sz)).take sz)) : ∀ i (h : i < (xs ++ ys).length), R P (f (xs ++ ys)[i]) ok w (((cx ++ cy).drop (i * sz)).take sz) := by
  intro i hi
  by_cases e : i < xs.length
  · rw [List.getElem_append_left e]
    have hle : i * sz + sz ≤ cx.length := by
      rw [hx]
      calc i * sz + sz = (i + 1) * sz := by rw [Nat.add_mul, Nat.one_mul]
        _ ≤ xs.length * sz := Nat.mul_le_mul_right _ e
    rw [List.drop_append_of_le_length (by omega), List.take_append_of_le_length (by simp; omega)]
    exact hX i e
  · rw [List.getElem_append_right (by omega)]
    have : (cx ++ cy).drop (i * sz) = cy.drop ((i - xs.length) * sz) := by
      have hge : xs.length * sz ≤ i * sz := Nat.mul_le_mul_right _ (by omega)
      rw [List.drop_append]
      rw [List.drop_of_length_le (by omega), List.nil_append, hx, Nat.sub_mul]
    rw [this]
    exact hY _ _

/-- An append: the new row, out of what was owned and the source. -/
theorem RelB.grown {X : Cx} {t t1 : St} {a : Act} {w w' : World} {β : Nat → Option Nat} {ν : Nat → Value} (hr : RelB P X t a w β ν) (hkill : Kill t t1) {ob d e sz by_ : Nat} {α : Type} {f : α → D} {z : α} {xs : List α} {v' : Value} {cells : List Value} {row : Option Nat}
    (h4 : 10000 ≤ ob) (hdn : d < X.n) (hd4 : d < 10000) (hg : w.grownBy w' row) (hdr : w.drawn ≤ w'.drawn) (hrow : ∀ b, row = some b → ∃ o, live (t o) = true ∧ live (t1 o) = false ∧ β o = some b)
    (hblk : ∀ b, v'.ownBlock = some b → row = some b ∨ w.heap.size ≤ b)
    (hown : w'.ownsRow 0 e sz v' xs.length cells) (h0 : 0 < sz) (hb : xs.length * by_ ≤ 140737488355328) (hl : xs.length ≤ 140737488355328) (h1 : ∀ u ∈ cells, u.oneCell' = true)
    (hR : ∀ i (h : i < xs.length), R P (f xs[i]) (okAt X t β w) w ((cells.drop (i * sz)).take sz)) :
    Rel P X (upd (upd t1 ob (.arr (newVer (t1 ob)) e sz by_ f z xs)) d (.row ob (newVer (t1 ob)))) (a.put (some d) v') w' := by
  refine ⟨updF β ob v'.ownBlock, updF ν ob v', hr.newObj hkill h4 hdn hd4 hg.os hg.tape ⟨hg.output, hdr⟩ hg.size ?_ ?_ rfl rfl ?_⟩
  · intro b hb'
    by_cases er : some b = row
    · right; exact hrow b er.symm
    · left; exact hg.block b hb' er
  · intro b hb'
    rcases hblk b hb' with h | h
    · right; exact hrow b h
    · left
      refine ⟨h, ?_⟩
      have := (hown.lt b hb').2
      exact this
  · intro hok hgo
    refine ⟨⟨cells, by rw [updF_same]; exact hown, by rw [updF_same, updF_same], h0, hb, hl, h1, fun i hi => R_mono _ hok hg.size (hR i hi)⟩, ?_⟩
    refine ⟨_, newVer (t1 ob), rfl, ?_, Nat.le_refl _, fun _ _ => (updF_same ..).symm⟩
    rw [upd_ne _ _ (by omega), upd_same]
    rfl

theorem run_append_op {T : TypeId} {x y : Operand} {a : Act} {w w' : World} {v' : Value} (ho : o.op = .call { callee := .builtin .append, args := #[x, y], argTypes := #[T, T] }) (h : (Builtin.append_ #[T, T] o.type #[a.eval x, a.eval y]).run P w = .ok v' w') :
    (execOp a.eval o).run P w = .ok (.value v') w' := by
  simp [execOp, ho, resolve, invoke, builtin, h]

theorem RelB.src {X : Cx} {t : St} {a : Act} {w : World} {β : Nat → Option Nat} {ν : Nat → Value} (hr : RelB P X t a w β ν) {y : Operand} {sz : Nat} {α : Type} {f : α → D} {z : α} {ys : List α} (h0 : 0 < sz) (hk : ∀ k ∈ kx y, t k = s k) (hy : Sees (ev s y) (.val (.list sz f z ys))) :
    Src P (okAt X t β w) w sz f ys (a.eval y) := src_list h0 (hr.sees hk hy)

/-- 'append(nil, y...)' -/
theorem r_appendE {x y : Operand} {T e sz by_ d ob : Nat} {zv : Value} {α : Type} {f : α → D} {z : α} {ys : List α} (ho : o.op = .call { callee := .builtin .append, args := #[x, y], argTypes := #[T, T] }) (hT : IsSlice P T e) (hs : Size P e sz) (hby : Bytes P e by_) (hz : Zero P e zv) (hzs : zv.cells.size = sz)
    (h0 : Nat.blt 0 sz = true) (hx : Sees (ev s x) .emp) (hy : Sees (ev s y) (.val (.list sz f z ys))) (hb : ys.length * by_ ≤ 140737488355328) (hl : ys.length ≤ 140737488355328) (hd : o.dst = some d) (hg : o.guard = none) (hob : Nat.blt 9999 ob = true) (hn : Nat.blt d n = true) (h4 : Nat.blt d 10000 = true) :
    LStep P n ops o (ob :: (kx x ++ kx y), [d, ob]) s (upd (upd s ob (.arr (newVer (s ob)) e sz by_ f z ys)) d (.row ob (newVer (s ob)))) := by
  refine ⟨off_two, fun X t a w hX hk hr Q => ?_⟩
  obtain ⟨β, ν, hr⟩ := hr
  have hob' := blt_lt hob
  have hd4 := blt_lt h4
  have hk1 : ∀ k ∈ kx x ++ kx y, t k = s k := fun k hk' => hk k (by simp only [List.mem_cons]; exact .inr hk')
  have hv := hr.sees (kl hk1) hx
  simp only [VR, List.cons.injEq, and_true] at hv
  obtain ⟨v', w', news, g1, g2, g3, g4, g5, g6, g7⟩ := run_append_src (P := P) (ty := o.type) hT hs hby hz hzs (blt_lt h0) (World.ownsRow_nil w 0 e sz) (hr.src (blt_lt h0) (kr hk1) hy) (by simp only [maxLen]; omega) (by simpa using hb)
  refine opWp_run (by simp [Region.wanted, hg]) (run_append_op ho (by rw [hv]; exact g1)) ?_
  rw [ovr_two (by omega), hd]
  have hto : t ob = s ob := hk ob (by simp)
  rw [← hto]
  simp only [Nat.zero_add, List.nil_append] at g2
  exact hr.grown (Kill.refl t) (by omega) (by rw [hX]; exact blt_lt hn) hd4 g3 (sem_drawn _ g1) (fun b hb' => by cases hb') (fun b hb' => by rcases g7 b hb' with h | h; cases h; exact .inr h) g2 (blt_lt h0) hb hl g5 g6

theorem ovr_three {t s : St} {d ob o1 : Nat} {x y z : AV} : ovr t [d, ob, o1] (upd (upd (upd s o1 z) ob y) d x) = upd (upd (upd t o1 z) ob y) d x := by
  funext k
  by_cases e : k = d
  · subst e; simp [ovr, upd_same]
  · by_cases e' : k = ob
    · subst e'; simp [ovr, upd_ne _ _ e, upd_same]
    · by_cases e'' : k = o1
      · subst e''; simp [ovr, upd_ne _ _ e, upd_ne _ _ e', upd_same]
      · simp [ovr, e, e', e'', upd_ne _ _ e, upd_ne _ _ e', upd_ne _ _ e'']

theorem off_three {s : St} {d ob o1 : Nat} {x y z : AV} (k : Nat) (h : k ∉ [d, ob, o1]) : upd (upd (upd s o1 z) ob y) d x k = s k := by
  simp only [List.mem_cons, List.not_mem_nil, or_false, not_or] at h
  rw [upd_ne _ _ h.1, upd_ne _ _ h.2.1, upd_ne _ _ h.2.2]

theorem RelB.atRow {X : Cx} {t : St} {a : Act} {w : World} {β : Nat → Option Nat} {ν : Nat → Value} (hr : RelB P X t a w β ν) {x : Operand} {o1 u e sz by_ : Nat} {α : Type} {f : α → D} {z : α} {xs : List α} (hk : ∀ k ∈ o1 :: kx x, t k = s k) (hx : Sees (ev s x) (.row o1 u)) (hb : s o1 = .arr u e sz by_ f z xs) :
    ∃ cells, w.ownsRow 0 e sz (a.eval x) xs.length cells ∧ β o1 = (a.eval x).ownBlock ∧ ν o1 = a.eval x ∧ 0 < sz ∧ xs.length * by_ ≤ 140737488355328 ∧ xs.length ≤ 140737488355328 ∧ (∀ c ∈ cells, c.oneCell' = true) ∧
      ∀ i (h : i < xs.length), R P (f xs[i]) (okAt X t β w) w ((cells.drop (i * sz)).take sz) := by
  obtain ⟨v, k, e1, h1, h2, h3⟩ := hr.sees (fun k hk' => hk k (by simp [hk'])) hx
  simp only [List.cons.injEq, and_true] at e1
  have hob : t o1 = .arr u e sz by_ f z xs := by rw [hk o1 (by simp), hb]
  rw [hob] at h1
  simp only [ver, Option.some.injEq] at h1
  have hv := h3 h1 (by rw [hob]; rfl)
  have ho := hr.obj o1
  rw [hob] at ho
  obtain ⟨cells, g1, g2, g3, g4, g4', g5, g6⟩ := ho
  rw [← hv, ← e1] at g1 g2
  exact ⟨cells, g1, g2, by rw [e1, hv], g3, g4, g4', g5, g6⟩

/-- 'append(x, y...)', x a row of the call's own. -/
theorem r_appendR {x y : Operand} {T e sz by_ d ob o1 u : Nat} {zv : Value} {α : Type} {f : α → D} {z z' : α} {xs ys : List α} (ho : o.op = .call { callee := .builtin .append, args := #[x, y], argTypes := #[T, T] }) (hT : IsSlice P T e) (hs : Size P e sz) (hby : Bytes P e by_) (hz : Zero P e zv) (hzs : zv.cells.size = sz)
    (h0 : Nat.blt 0 sz = true) (hx : Sees (ev s x) (.row o1 u)) (hb1 : s o1 = .arr u e sz by_ f z xs) (hy : Sees (ev s y) (.val (.list sz f z' ys))) (hb : (xs.length + ys.length) * by_ ≤ 140737488355328) (hl : xs.length + ys.length ≤ 140737488355328)
    (hd : o.dst = some d) (hg : o.guard = none) (hob : Nat.blt 9999 ob = true) (hn : Nat.blt d n = true) (h4 : Nat.blt d 10000 = true) :
    LStep P n ops o (ob :: o1 :: (kx x ++ kx y), [d, ob, o1]) s (upd (upd (upd s o1 (.dead u)) ob (.arr (newVer (upd s o1 (.dead u) ob)) e sz by_ f z (xs ++ ys))) d (.row ob (newVer (upd s o1 (.dead u) ob)))) := by
  refine ⟨off_three, fun X t a w hX hk hr Q => ?_⟩
  obtain ⟨β, ν, hr⟩ := hr
  have hob' := blt_lt hob
  have hd4 := blt_lt h4
  have hk1 : ∀ k ∈ kx x ++ kx y, t k = s k := fun k hk' => hk k (by simp only [List.mem_cons]; exact .inr (.inr hk'))
  have hto : t ob = s ob := hk ob (by simp)
  have ht1 : t o1 = .arr u e sz by_ f z xs := by rw [hk o1 (by simp), hb1]
  obtain ⟨cells, q1, q2, q2', q3, q4, q4', q5, q6⟩ := hr.atRow (s := s) (fun k hk' => by
    rcases List.mem_cons.1 hk' with rfl | h
    · exact hk _ (by simp)
    · exact hk1 k (List.mem_append_left _ h)) hx hb1
  obtain ⟨v', w', news, g1, g2, g3, g4, g5, g6, g7⟩ := run_append_src (P := P) (ty := o.type) hT hs hby hz hzs (blt_lt h0) q1 (hr.src (blt_lt h0) (kr hk1) hy) (by simp only [maxLen]; omega) hb
  refine opWp_run (by simp [Region.wanted, hg]) (run_append_op ho g1) ?_
  have hnv : newVer (upd s o1 (.dead u) ob) = newVer (upd t o1 (.dead u) ob) := by
    by_cases e1 : ob = o1
    · subst e1; rw [upd_same, upd_same]
    · rw [upd_ne _ _ e1, upd_ne _ _ e1, hto]
  rw [ovr_three, hd, hnv]
  have hlo1 : live (t o1) = true := by rw [ht1]; rfl
  refine hr.grown (Kill.one (by rw [ht1]; rfl)) (by omega) (by rw [hX]; exact blt_lt hn) hd4 g3 (sem_drawn _ g1) (fun b hb' => ⟨o1, hlo1, by rw [upd_same]; rfl, by rw [q2]; exact hb'⟩) g7 (by rw [List.length_append]; exact g2) (blt_lt h0) (by rw [List.length_append]; exact hb) (by rw [List.length_append]; exact hl) ?_ ?_
  · intro v hv
    rcases List.mem_append.1 hv with h | h
    · exact q5 v h
    · exact g5 v h
  · exact rows_append q1.1 q6 g6

/-! ### Ghost steps -/

/-- The state is told otherwise; nothing is done. -/
def GLe (P : Program) (F : List Nat × List Nat) (s s' : St) : Prop :=
  (∀ k, k ∉ F.2 → s' k = s k) ∧ ∀ (X : Cx) (t : St) (a : Act) (w : World), (∀ k ∈ F.1, t k = s k) → Rel P X t a w → Rel P X (ovr t F.2 s') a w

theorem GLe.le {F : List Nat × List Nat} {s s' : St} (h : GLe P F s s') : Le P s s' := fun X a w hr => by
  have := h.2 X s a w (fun _ _ => rfl) hr
  rwa [ovr_self h.1] at this

theorem LStep.pre {F G : List Nat × List Nat} {s s1 s2 : St} (h1 : GLe P F s s1) (h2 : LStep P n ops o G s1 s2) : LStep P n ops o (F.1 ++ G.1, F.2 ++ G.2) s s2 := by
  refine ⟨fun k hk => ?_, fun X t a w hX hk hr Q => ?_⟩
  · simp only [List.mem_append, not_or] at hk
    rw [h2.1 k hk.2, h1.1 k hk.1]
  · have hr1 := h1.2 X t a w (fun k hk' => hk k (List.mem_append_left _ hk')) hr
    have := h2.2 X _ a w hX (fun k hk' => ?_) hr1 Q
    · refine opWp_mono (fun a' w' h' => ?_) this
      have e : ovr (ovr t F.2 s1) G.2 s2 = ovr t (F.2 ++ G.2) s2 := by
        funext k
        simp only [ovr, List.mem_append]
        by_cases e1 : k ∈ G.2
        · simp [e1]
        · by_cases e2 : k ∈ F.2
          · simp [e1, e2, h2.1 k e1]
          · simp [e1, e2]
      rw [e] at h'
      exact h'
    · simp only [ovr]
      split
      · rfl
      · rename_i hn
        rw [hk k (List.mem_append_right _ hk'), h1.1 k hn]

/-- An owned row reads as a list once it is owned no more. -/
theorem row_reads {X : Cx} {t t' : St} {w : World} {β : Nat → Option Nat} {sz e m : Nat} {v : Value} {cells : List Value} {α : Type} {f : α → D} {z : α} {xs : List α} (hown : w.ownsRow 0 e sz v m cells) (hm : m = xs.length) (hok : ∀ b, okAt X t β w b → okAt X t' β w b) (hb : ∀ b, v.ownBlock = some b → okAt X t' β w b)
    (h1 : ∀ c ∈ cells, c.oneCell' = true) (hl : xs.length ≤ 140737488355328) (hR : ∀ i (h : i < xs.length), R P (f xs[i]) (okAt X t β w) w ((cells.drop (i * sz)).take sz)) : RV P (.list sz f z xs) (okAt X t' β w) w v := by
  subst hm
  rcases hown.2 with ⟨rfl, h0⟩ | ⟨g, cap, cur, rfl, _, hg, hnc, hcm, hcs, htake⟩
  · have : xs = [] := List.eq_nil_of_length_eq_zero h0
    subst this
    exact ⟨rfl, none, 0, rfl, Nat.le_refl _, Nat.zero_le _, Nat.zero_le _, fun i hi => by simp at hi⟩
  · refine ⟨rfl, some ⟨g, 0, none⟩, cap, rfl, hnc, hcm, hl, fun i hi => ?_⟩
    have hlen : ((cells.drop (i * sz)).take sz).length = sz := by
      have : (i + 1) * sz ≤ xs.length * sz := Nat.mul_le_mul_right _ hi
      rw [Nat.add_mul, Nat.one_mul] at this
      simp [hown.1]
      omega
    refine ⟨⟨g, 0, none⟩, (cells.drop (i * sz)).take sz, rfl, rfl, hb g rfl, hlen, fun c hc => h1 c (List.mem_of_mem_drop (List.mem_of_mem_take hc)), ?_, R_mono _ (fun b hb' => ⟨hok b hb', rfl⟩) (Nat.le_refl _) (hR i hi)⟩
    intro j hj
    have hc := hown.cells (g := g) rfl (i * sz + j) (((cells.drop (i * sz)).take sz)[j]) (by
      rw [← List.getElem?_drop, ← List.getElem?_eq_getElem, List.getElem?_take, if_pos (by rw [hlen] at hj; exact hj)])
    rw [Addr.add_none rfl] at hc
    simpa using hc

/-- A row in a slot is owned no more: it is read from now on. -/
theorem g_freeze {o1 u k e sz by_ : Nat} {α : Type} {f : α → D} {z : α} {xs : List α} (hk4 : Nat.blt k 10000 = true) (ho4 : Nat.blt 9999 o1 = true) (hx : s k = .row o1 u) (hb : s o1 = .arr u e sz by_ f z xs) :
    GLe P ([o1, k], [k, o1]) s (upd (upd s o1 (.dead u)) k (.val (.list sz f z xs))) := by
  refine ⟨off_two, fun X t a w hk hr => ?_⟩
  obtain ⟨β, ν, hr⟩ := hr
  have hk' := blt_lt hk4
  have ho' := blt_lt ho4
  rw [ovr_two (by omega)]
  have hto : t o1 = .arr u e sz by_ f z xs := by rw [hk o1 (by simp), hb]
  have hev : ev s (.tmp k) = .row o1 u := by simp only [ev, hk4, cond_true]; exact hx
  obtain ⟨cells, q1, q2, q2', q3, q4, q4', q5, q6⟩ := hr.atRow (s := s) (x := .tmp k) (fun j hj => by
    simp only [kx, List.mem_cons, List.not_mem_nil, or_false] at hj
    exact hk j (by simp only [List.mem_cons, List.not_mem_nil, or_false]; exact hj)) (Sees.of hev) hb
  have hlo : live (t o1) = true := by rw [hto]; rfl
  have hs : ∀ j, j ≠ o1 → j ≠ k → upd (upd t o1 (.dead u)) k (.val (.list sz f z xs)) j = t j := fun j h1 h2 => by rw [upd_ne _ _ h2, upd_ne _ _ h1]
  have hso : upd (upd t o1 (.dead u)) k (.val (.list sz f z xs)) o1 = .dead u := by rw [upd_ne _ _ (by omega), upd_same]
  have hlv : ∀ j, live (upd (upd t o1 (.dead u)) k (.val (.list sz f z xs)) j) = true → j ≠ o1 ∧ j ≠ k ∧ upd (upd t o1 (.dead u)) k (.val (.list sz f z xs)) j = t j := by
    intro j hj
    have h1 : j ≠ o1 := by rintro rfl; rw [hso] at hj; cases hj
    have h2 : j ≠ k := by rintro rfl; rw [upd_same] at hj; cases hj
    exact ⟨h1, h2, hs j h1 h2⟩
  have hgoes : Goes t (upd (upd t o1 (.dead u)) k (.val (.list sz f z xs))) β β ν ν := by
    intro j m hm
    by_cases e1 : j = o1
    · subst e1
      rw [hto] at hm
      simp only [ver, Option.some.injEq] at hm
      exact ⟨u, by rw [hso]; rfl, by omega, fun _ hl => by rw [hso] at hl; cases hl⟩
    · by_cases e2 : j = k
      · subst e2; rw [hr.keys j hk'] at hm; cases hm
      · refine ⟨m, by rw [hs j e1 e2]; exact hm, Nat.le_refl _, fun _ hl => ⟨by rw [← hs j e1 e2]; exact hl, rfl, rfl⟩⟩
  have hok : ∀ b, okAt X t β w b → okAt X (upd (upd t o1 (.dead u)) k (.val (.list sz f z xs))) β w b ∧ w.heap[b]? = w.heap[b]? := by
    intro b hb'
    refine ⟨⟨hb'.1, hb'.2.1, fun j hl => hb'.2.2 j ?_⟩, rfl⟩
    rw [← (hlv j hl).2.2]; exact hl
  refine ⟨β, ν, hr.move rfl rfl ⟨rfl, Nat.le_refl _⟩ (Nat.le_refl _) (fun _ _ _ => rfl) hok hgoes ?_ ?_ ?_ ?_ ?_ rfl rfl (fun hv => .inl (hs _ (by intro e; rw [e, hso] at hv; cases hv) (by omega)))⟩
  · intro j b hl hb'; exact .inl ⟨by rw [← (hlv j hl).2.2]; exact hl, hb'⟩
  · intro j j' b hl hl' h1 h2
    exact hr.inj j j' b (by rw [← (hlv j hl).2.2]; exact hl) (by rw [← (hlv j' hl').2.2]; exact hl') h1 h2
  · intro j hl; exact .inl ⟨(hlv j hl).2.2, rfl, rfl, fun _ _ => rfl⟩
  · intro j hj
    by_cases e2 : j = k
    · subst e2
      right
      rw [upd_same]
      refine ⟨_, rfl, ?_⟩
      refine row_reads (t := t) q1 rfl (fun b hb' => (hok b hb').1) (fun b hb' => ?_) q5 q4' q6
      have hβ : β o1 = some b := by rw [q2]; exact hb'
      have hw := hr.own o1 b hlo hβ
      refine ⟨.inr hw.1, hw.2, fun j' hl hj' => ?_⟩
      obtain ⟨e3, _, e4⟩ := hlv j' hl
      exact e3 (hr.inj j' o1 b (by rw [← e4]; exact hl) hlo hj' hβ)
    · left; exact ⟨hs j (by omega) e2, rfl⟩
  · intro j hj
    by_cases e2 : j = k
    · subst e2; rw [upd_same]; rfl
    · rw [hs j (by omega) e2]; exact hr.keys j hj

/-- The nil slice in a slot, as a row of the call's own. -/
theorem g_adopt {ob k : Nat} (e sz by_ : Nat) {α : Type} (f : α → D) (z : α) (h0 : Nat.blt 0 sz = true) (hk4 : Nat.blt k 10000 = true) (ho4 : Nat.blt 9999 ob = true) (hx : s k = .emp) :
    GLe P ([ob, k], [k, ob]) s (upd (upd s ob (.arr (newVer (s ob)) e sz by_ f z [])) k (.row ob (newVer (s ob)))) := by
  refine ⟨off_two, fun X t a w hk hr => ?_⟩
  obtain ⟨β, ν, hr⟩ := hr
  have hk' := blt_lt hk4
  have ho' := blt_lt ho4
  rw [ovr_two (by omega)]
  have hto : t ob = s ob := hk ob (by simp)
  have hv := hr.slot k hk'
  rw [hk k (by simp), hx] at hv
  simp only [VR, List.cons.injEq, and_true] at hv
  by_cases hkn : k < X.n
  · have := hr.grown (t1 := t) (ob := ob) (d := k) (e := e) (sz := sz) (by_ := by_) (f := f) (z := z) (xs := []) (v' := .slice none 0 0) (cells := []) (row := none) (w' := w) (Kill.refl t) (by omega) hkn hk' (grown_refl w none) (Nat.le_refl _) (fun b hb' => by cases hb') (fun b hb' => by cases hb')
      (World.ownsRow_nil w 0 e sz) (blt_lt h0) (by simp) (by simp) (by simp) (fun i hi => by simp at hi)
    rw [← hto]
    have ea : a.put (some k) (.slice none 0 0) = a := by
      cases a with
      | mk tm df =>
        simp only [Act.put, Act.mk.injEq, and_true]
        apply Array.ext
        · simp
        · intro i h1 h2
          rw [Array.getElem_setIfInBounds h2]
          split
          · rename_i e'; subst e'
            have hlt : k < tm.size := by have := hr.tmps; simp at this; omega
            simp [Array.getD, hlt] at hv
            exact hv.symm
          · rfl
    rw [ea] at this
    exact this
  · exfalso
    have hge : a.tmps.size ≤ k := by rw [hr.tmps]; omega
    rw [Array.getD_eq_getD_getElem?, Array.getElem?_eq_none hge] at hv
    cases hv

/-! ### Reading a row -/

theorem p_lenR {x : Operand} {T e' o1 u e sz by_ : Nat} {α : Type} {f : α → D} {z : α} {xs : List α} (ho : o.op = .call { callee := .builtin .len, args := #[x], argTypes := #[T] }) (hT : IsSlice P T e') (hx : Sees (ev s x) (.row o1 u)) (hb : s o1 = .arr u e sz by_ f z xs) :
    PStep P o (o1 :: kx x) s (.val (.int .i64 xs.length)) := by
  intro X t a w β ν hk hr
  obtain ⟨cells, q1, _⟩ := hr.atRow hk hx hb
  refine ⟨rfl, .int .i64 xs.length, ?_, mk_int _ _ _⟩
  have hT' : P.underlying T = some (.slice e') := hT
  have hv : ∃ ad cap, a.eval x = .slice ad xs.length cap := by
    rcases q1.2 with ⟨h1, h2⟩ | ⟨g, cap, cur, h1, _⟩
    · exact ⟨none, 0, by rw [h1, h2]⟩
    · exact ⟨_, cap, h1⟩
  obtain ⟨ad, cap, hv⟩ := hv
  simp [execOp, ho, resolve, invoke, builtin, Builtin.len_, run_underlying' hT', hv, goInt]

theorem p_indexR {x i : Operand} {T o1 u e sz by_ m : Nat} {k : IntKind} {α : Type} {f : α → D} {z : α} {xs : List α} (ho : o.op = .indexAddr T x i) (hT : IsSlice P T e) (hs : Size P e sz) (hx : Sees (ev s x) (.row o1 u)) (hb : s o1 = .arr u e sz by_ f z xs)
    (hi : Sees (ev s i) (.val (.int k (m : Int)))) (h1 : m < xs.length) : PStep P o ((o1 :: kx x) ++ kx i) s (.elt o1 u sz m) := by
  intro X t a w β ν hk hr
  obtain ⟨cells, q1, q2, q2', q3, _⟩ := hr.atRow (kl hk) hx hb
  rcases q1.2 with ⟨_, h2⟩ | ⟨g, cap, cur, hv, _, hg, _⟩
  · omega
  · refine ⟨rfl, .pointer (some ⟨g, m * sz, none⟩), ?_, ?_⟩
    · have hT' : P.underlying T = some (.slice e) := hT
      have hii := hr.int (kr hk) hi
      simp [execOp, ho, Instr.indexAt, hii, hv, asIntOf, run_underlying' hT', run_sizeOf hs, h1, Addr.add_none]
    · have hto : t o1 = .arr u e sz by_ f z xs := by rw [hk o1 (by simp), hb]
      refine ⟨_, u, rfl, by rw [hto]; rfl, Nat.le_refl _, fun _ _ => ⟨g, ?_, rfl⟩⟩
      rw [q2, hv]; rfl

theorem p_indexRZ {x i : Operand} {T o1 u e sz by_ : Nat} {k : IntKind} {m : Int} {α : Type} {f : α → D} {z : α} {xs : List α} (ho : o.op = .indexAddr T x i) (hT : IsSlice P T e) (hs : Size P e sz) (hx : Sees (ev s x) (.row o1 u)) (hb : s o1 = .arr u e sz by_ f z xs)
    (hi : Sees (ev s i) (.val (.int k m))) (h0 : 0 ≤ m) (h1 : m < xs.length) : PStep P o ((o1 :: kx x) ++ kx i) s (.elt o1 u sz m.toNat) := by
  obtain ⟨j, rfl⟩ := Int.eq_ofNat_of_zero_le h0
  have := p_indexR (P := P) (m := j) ho hT hs hx hb hi (by omega)
  simpa using this

theorem RelB.atElt {X : Cx} {t : St} {a : Act} {w : World} {β : Nat → Option Nat} {ν : Nat → Value} (hr : RelB P X t a w β ν) {x : Operand} {o1 u e sz by_ m : Nat} {α : Type} {f : α → D} {z : α} {xs : List α} (hk : ∀ k ∈ o1 :: kx x, t k = s k) (hx : Sees (ev s x) (.elt o1 u sz m)) (hb : s o1 = .arr u e sz by_ f z xs) (hm : m < xs.length) :
    ∃ g cap cur cells, ν o1 = .slice (some ⟨g, 0, none⟩) xs.length cap ∧ β o1 = some g ∧ a.eval x = .pointer (some ⟨g, m * sz, none⟩) ∧ w.heap[g]? = some (.cells cur e (0, 0)) ∧ w.ownsRow 0 e sz (ν o1) xs.length cells ∧ cur.toList.take (xs.length * sz) = cells ∧ cur.size = cap * sz ∧ xs.length ≤ cap ∧ cap ≤ maxLen ∧ 0 < sz ∧
      xs.length * by_ ≤ 140737488355328 ∧ xs.length ≤ 140737488355328 ∧ (∀ c ∈ cells, c.oneCell' = true) ∧ ∀ i (h : i < xs.length), R P (f xs[i]) (okAt X t β w) w ((cells.drop (i * sz)).take sz) := by
  obtain ⟨v, k, e1, h1, h2, h3⟩ := hr.sees (fun k hk' => hk k (by simp [hk'])) hx
  simp only [List.cons.injEq, and_true] at e1
  have hob : t o1 = .arr u e sz by_ f z xs := by rw [hk o1 (by simp), hb]
  rw [hob] at h1
  simp only [ver, Option.some.injEq] at h1
  obtain ⟨g, h4, h5⟩ := h3 h1 (by rw [hob]; rfl)
  have ho := hr.obj o1
  rw [hob] at ho
  obtain ⟨cells, g1, g2, g3, g4, g4', g5, g6⟩ := ho
  rcases g1.2 with ⟨_, h6⟩ | ⟨g', cap, cur, hv, _, hg, hnc, hcm, hcs, htake⟩
  · omega
  · rw [g2, hv] at h4
    simp only [Value.ownBlock, Option.some.injEq] at h4
    subst h4
    exact ⟨g', cap, cur, cells, hv, by rw [g2, hv]; rfl, by rw [e1, h5], hg, g1, htake, hcs, hnc, hcm, g3, g4, g4', g5, g6⟩

/-- A load of an element of a row: of one cell; of a struct. -/
theorem p_loadE {x : Operand} {T o1 u e by_ m : Nat} {α : Type} {f : α → D} {z : α} {xs : List α} (ho : o.op = .load T x) (hT : IsAgg P T false) (hx : Sees (ev s x) (.elt o1 u 1 m)) (hb : s o1 = .arr u e 1 by_ f z xs) (hm : m < xs.length) (hd : ∀ x, (f x).one = true) : PStep P o (o1 :: kx x) s (.val (f (xs.getD m z))) := by
  intro X t a w β ν hk hr
  obtain ⟨g, cap, cur, cells, q1, q2, q3, q4, q5, q6, q7, q8, q9, q10, q11, q12, q13, q14⟩ := hr.atElt hk hx hb hm
  have hR := q14 m hm
  obtain ⟨v, hv, hvr⟩ := R_one (hd _) hR
  have hget : xs.getD m z = xs[m] := by simp [List.getD, hm]
  refine ⟨rfl, v, ?_, ⟨v, rfl, by rw [hget]; exact hvr⟩⟩
  have hc : cells[m]? = some v := by
    have : ((cells.drop (m * 1)).take 1)[0]? = some v := by rw [hv]; rfl
    rw [List.getElem?_take, if_pos (by omega), List.getElem?_drop] at this
    simpa using this
  have hcell := q5.cells (g := g) (by rw [q1]; rfl) m v hc
  rw [Addr.add_none rfl] at hcell
  simp only [Nat.zero_add] at hcell
  simp [execOp, ho, Instr.loadAt, q3, Instr.sureAddr, loadVar, run_isAgg hT, hcell]

theorem p_loadES {x : Operand} {T o1 u e sz by_ m : Nat} {α : Type} {f : α → D} {z : α} {xs : List α} (ho : o.op = .load T x) (hT : IsAgg P T true) (hs : Size P T sz) (hx : Sees (ev s x) (.elt o1 u sz m)) (hb : s o1 = .arr u e sz by_ f z xs) (hm : m < xs.length) (hd : ∀ x, (f x).isAgg = true) :
    PStep P o (o1 :: kx x) s (.val (f (xs.getD m z))) := by
  intro X t a w β ν hk hr
  obtain ⟨g, cap, cur, cells, q1, q2, q3, q4, q5, q6, q7, q8, q9, q10, q11, q12, q13, q14⟩ := hr.atElt hk hx hb hm
  have hR := q14 m hm
  have hget : xs.getD m z = xs[m] := by simp [List.getD, hm]
  have hlen : ((cells.drop (m * sz)).take sz).length = sz := by
    have : (m + 1) * sz ≤ xs.length * sz := Nat.mul_le_mul_right _ hm
    rw [Nat.add_mul, Nat.one_mul] at this
    simp [q5.1]
    omega
  refine ⟨rfl, .agg ((cells.drop (m * sz)).take sz).toArray, ?_, ⟨_, rfl, by rw [hd]; rfl, by rw [hget]; simpa [Value.cells] using hR⟩⟩
  have hlc := run_loadCells_list (P := P) w ⟨g, m * sz, none⟩ ((cells.drop (m * sz)).take sz) (fun j v hj => by
    have hjl := (List.getElem?_eq_some_iff.1 hj).1
    rw [List.getElem?_take, if_pos (by omega), List.getElem?_drop] at hj
    have := q5.cells (g := g) (by rw [q1]; rfl) (m * sz + j) v hj
    rw [Addr.add_none rfl] at this ⊢
    simpa using this)
  rw [hlen] at hlc
  simp [execOp, ho, Instr.loadAt, q3, Instr.sureAddr, loadVar, run_isAgg hT, run_sizeOf hs, hlc]
end
end Go.Um
