/- Rows of a call's own: append, literals, reads, stores, freezing. No condition. -/
import Derived.Test.YtfjafkocejoigaaGreatLit
import Derived.ArgAppend
import Derived.Laws.OwnMore
namespace Go.Um
open Go Go.RowKit

def Bytes (P : Program) (T k : Nat) : Prop := (P.info? T).map (·.bytes) = some k

section
variable {P : Program} {n : Nat} {ops : Array Oper} {s : St} {o : Oper}

theorem flat_len {sz : Nat} : ∀ (l : List (List Value)), (∀ c ∈ l, c.length = sz) → l.flatten.length = l.length * sz
  | [], _ => by simp
  | c :: l, h => by
    have := flat_len l (fun x hx => h x (by simp [hx]))
    simp only [List.flatten_cons, List.length_append, List.length_cons, h c (by simp), this]
    rw [Nat.add_mul, Nat.one_mul, Nat.add_comm]

theorem flat_get {sz : Nat} : ∀ (l : List (List Value)) (i : Nat) (h : i < l.length), (∀ c ∈ l, c.length = sz) → (l.flatten.drop (i * sz)).take sz = l[i]
  | [], i, h, _ => by simp at h
  | c :: l, 0, h, hs => by
    have h1 := hs c (by simp)
    simp only [List.flatten_cons, Nat.zero_mul, List.drop_zero, List.getElem_cons_zero]
    rw [← h1, List.take_left]
  | c :: l, i + 1, h, hs => by
    have h1 := hs c (by simp)
    have := flat_get l i (by simpa using h) (fun u hu => hs u (by simp [hu]))
    simp only [List.getElem_cons_succ, List.flatten_cons]
    rw [← this, Nat.add_mul, Nat.one_mul, Nat.add_comm, ← List.drop_drop]
    congr 2
    rw [← h1, List.drop_left]

theorem flat_at {sz : Nat} {l : List (List Value)} (hs : ∀ c ∈ l, c.length = sz) {j : Nat} {u : Value} (h : l.flatten[j]? = some u) (h0 : 0 < sz) : ∃ (hi : j / sz < l.length), l[j / sz][j % sz]? = some u := by
  have hlt := (List.getElem?_eq_some_iff.1 h).1
  rw [flat_len l hs] at hlt
  have hi : j / sz < l.length := Nat.div_lt_of_lt_mul (by rw [Nat.mul_comm]; exact hlt)
  refine ⟨hi, ?_⟩
  rw [← flat_get l (j / sz) hi hs, List.getElem?_take, if_pos (Nat.mod_lt _ h0), List.getElem?_drop]
  rw [Nat.mul_comm, Nat.div_add_mod]
  exact h
def Src (P : Program) (ok : Nat → Prop) (w : World) (sz : Nat) {α : Type} (f : α → D) (ys : List α) (v : Value) : Prop :=
  ∃ (ad : Option Addr) (cap : Nat) (news : List Value), v = .slice ad ys.length cap ∧ news.length = ys.length * sz ∧ (ad = none → ys = []) ∧ (∀ a, ad = some a → ∀ j u, news[j]? = some u → w.cell? (a.add j) = some u) ∧
    (∀ u ∈ news, u.oneCell' = true) ∧ ∀ i (h : i < ys.length), R P (f ys[i]) ok w ((news.drop (i * sz)).take sz)
theorem src_list {ok : Nat → Prop} {w : World} {β : Nat → Option Nat} {ν : Nat → Value} {sz : Nat} {α : Type} {f : α → D} {z : α} {ys : List α} {v : Value} (h0 : 0 < sz) (h : VR P ok w s β ν (.val (.list sz f z ys)) [v]) : Src P ok w sz f ys v := by
  obtain ⟨a, cap, hv, hcap, hmax, hlim, hc⟩ := vr_list h
  obtain ⟨css, hcl, hcs⟩ := exists_list (fun i (cs : List Value) => ∀ (h : i < ys.length), ∃ p, a = some p ∧ p.spot = none ∧ cs.length = sz ∧ (∀ c ∈ cs, c.oneCell' = true) ∧ cellsAt w p.block (p.off + i * sz) cs ∧ R P (f ys[i]) ok w cs) ys.length
    (fun i hi => by obtain ⟨p, cs, h1, h2, _, h3, h4, h5, h6⟩ := hc i hi; exact ⟨cs, fun _ => ⟨p, h1, h2, h3, h4, h5, h6⟩⟩)
  have hsz : ∀ c ∈ css, c.length = sz := by
    intro c hcm
    obtain ⟨i, hi, rfl⟩ := List.getElem_of_mem hcm
    obtain ⟨p, _, _, h3, _⟩ := hcs i hi (by omega)
    exact h3
  refine ⟨a, cap, css.flatten, hv, by rw [flat_len css hsz, hcl], ?_, ?_, ?_, ?_⟩
  · intro ha
    cases ys with
    | nil => rfl
    | cons y ys => obtain ⟨p, cs, h1, _⟩ := hc 0 (by simp); rw [ha] at h1; cases h1
  · intro ad had j u hj
    obtain ⟨hi, hju⟩ := flat_at hsz hj h0
    obtain ⟨p, h1, h2, h3, h4, h5, h6⟩ := hcs (j / sz) hi (by omega)
    rw [had] at h1
    cases h1
    obtain ⟨hj', rfl⟩ := List.getElem?_eq_some_iff.1 hju
    have := h5 (j % sz) hj'
    rw [Addr.add_none h2]
    rw [show ad.off + j = ad.off + j / sz * sz + j % sz by rw [Nat.add_assoc, Nat.div_add_mod']]
    exact this
  · intro u hu
    obtain ⟨c, hcm, huc⟩ := List.mem_flatten.1 hu
    obtain ⟨i, hi, rfl⟩ := List.getElem_of_mem hcm
    obtain ⟨p, _, _, _, h4, _⟩ := hcs i hi (by omega)
    exact h4 u huc
  · intro i hi
    rw [flat_get css i (by omega) hsz]
    obtain ⟨p, _, _, _, _, _, h6⟩ := hcs i (by omega) hi
    exact h6

theorem run_append_none (base : Nat) (t ty e : TypeId) (i : TypeInfo) (size : Nat) (ht : P.underlying t = some (.slice e)) (hi : P.info? e = some i) (v : Value) (m c : Nat) (xs : List Value) (w : World) (hown : w.ownsRow base e size v m xs) :
    (Builtin.append_ #[t, t] ty #[v, .slice none 0 c]).run P w = .ok v w := by
  rcases hown.2 with ⟨rfl, rfl⟩ | ⟨g, cap, cur, rfl, _, _, hnc, _⟩
  · simp [Builtin.append_, run_underlying' ht, sizeOf, typeInfo, hi, Builtin.lenOf, Builtin.firstCells]
  · simp [Builtin.append_, run_underlying' ht, sizeOf, typeInfo, hi, Builtin.lenOf, Builtin.firstCells, hnc, storeCells]

theorem grown_refl (w : World) (row : Option Nat) : w.grownBy w row := ⟨rfl, rfl, rfl, Nat.le_refl _, fun _ _ _ => rfl⟩

theorem ask_drawn {α : Type} (q : Ask α) : ∀ (w : World), w.drawn ≤ (w.ask q).2.drawn := by
  induction q with
  | done a => intro w; exact Nat.le_refl _
  | ask what range k ih =>
    intro w
    simp only [World.ask]
    split
    · exact ih _ w
    · exact Nat.le_trans (Nat.le_succ w.drawn) (ih _ { w with drawn := w.drawn + 1 })

theorem sys_drawn (w : World) (c : Sys) : w.drawn ≤ (w.sys c).2.drawn := by
  unfold World.sys
  have h := ask_drawn (Kernel.perform c w.os) w
  split
  · exact Nat.le_refl _
  · rename_i e
    rw [e] at h
    exact h

theorem viewStore_drawn {p : Program} {w w' : World} {at_ a : Addr} {u : TypeId} {v : Value} {b : Bool} {x : List Addr} (h : w.viewStore p at_ u a v b = .ok (w', x)) : w'.drawn = w.drawn := by
  simp only [World.viewStore, bind, Except.bind, pure, Except.pure, throw, throwThe, MonadExceptOf.throw] at h
  repeat' split at h
  all_goals first | (cases h; done) | (simp only [Except.ok.injEq, Prod.mk.injEq] at h; obtain ⟨rfl, _⟩ := h; rfl)

theorem farStore_drawn {p : Program} {w w' : World} {a : Addr} {v : Value} {b : Bool} {x : List Addr} (h : w.farStore p a v b = .ok (w', x)) : w'.drawn = w.drawn := by
  unfold World.farStore at h
  split at h
  · split at h
    · rename_i r hr
      cases h
      exact viewStore_drawn hr
    · cases h
  · cases h

theorem setCell_drawn (w : World) (a : Addr) (v : Value) : (w.setCell a v).drawn = w.drawn := rfl
theorem freeze_drawn (w : World) (a : Addr) (n : Nat) : (w.freeze a n).drawn = w.drawn := by unfold World.freeze; split <;> rfl
theorem sem_drawn {α : Type} {p : Program} (s : Sem α) : ∀ {w w' : World} {v : α}, s.run p w = .ok v w' → w.drawn ≤ w'.drawn := by
  induction s with
  | pure a => intro w w' v h; simp only [Sem.run] at h; cases h; exact Nat.le_refl _
  | load m a k ih =>
    intro w w' v h
    simp only [Sem.run] at h
    split at h
    · exact ih _ h
    · split at h
      · exact ih _ h
      · cases h
  | store m a u k ih =>
    intro w w' v h
    have key : ∀ {h0 : Halt} {w1 : World}, (Result.halt h0 w1 : Result α) ≠ .ok v w' := fun h => by cases h
    have fin : (match w.cell? a with
        | some _ => if w.frozen? a then Result.halt (.unsupported (.unsafePointer "a write to bytes that a string shares")) w else k.run p (w.setCell a u)
        | none => match w.farStore p a u (m == Mode.atomic) with
          | .ok (w, _) => k.run p w
          | .error h => .halt h w) = .ok v w' → w.drawn ≤ w'.drawn := by
      intro h
      split at h
      · split at h
        · exact absurd h key
        · have := ih h; rwa [setCell_drawn] at this
      · split at h
        · rename_i e; have := ih h; rwa [farStore_drawn e] at this
        · exact absurd h key
    cases u with
    | agg _ => simp only [Sem.run] at h; exact absurd h key
    | tuple _ => simp only [Sem.run] at h; exact absurd h key
    | _ => simp only [Sem.run] at h; exact fin h
  | new o k ih => intro w w' v h; simp only [Sem.run] at h; have := ih _ h; exact this
  | shape r k ih => intro w w' v h; simp only [Sem.run] at h; exact ih _ h
  | freeze a n k ih => intro w w' v h; simp only [Sem.run] at h; have := ih h; rw [freeze_drawn] at this; exact this
  | frozen a k ih => intro w w' v h; simp only [Sem.run] at h; exact ih _ h
  | getObj r k ih =>
    intro w w' v h
    simp only [Sem.run] at h
    split at h
    · cases h
    · exact ih _ h
    · cases h
  | setObj r o k ih =>
    intro w w' v h
    simp only [Sem.run] at h
    split at h
    · cases h
    · have := ih h; exact this
    · cases h
  | choose q k ih =>
    intro w w' v h
    simp only [Sem.run] at h
    split at h
    · exact ih _ h
    · exact Nat.le_trans (Nat.le_succ w.drawn) (ih _ h)
  | sys c k ih => intro w w' v h; simp only [Sem.run] at h; exact Nat.le_trans (sys_drawn w c) (ih _ h)
  | program k ih => intro w w' v h; simp only [Sem.run] at h; exact ih _ h
  | mark m k ih => intro w w' v h; simp only [Sem.run] at h; exact ih h
  | halt h0 => intro w w' v h; simp only [Sem.run] at h; cases h

theorem run_append_src {T ty e sz by_ : Nat} {z : Value} (hT : IsSlice P T e) (hs : Size P e sz) (hby : Bytes P e by_) (hz : Zero P e z) (hzs : z.cells.size = sz) (h0 : 0 < sz) {w : World} {v v2 : Value} {m : Nat} {xs : List Value} {ok : Nat → Prop} {α : Type} {f : α → D} {ys : List α}
    (hown : w.ownsRow 0 e sz v m xs) (hsrc : Src P ok w sz f ys v2) (hm : m + ys.length ≤ maxLen) (hb : (m + ys.length) * by_ ≤ 140737488355328) :
    ∃ v' w' news, (Builtin.append_ #[T, T] ty #[v, v2]).run P w = .ok v' w' ∧ w'.ownsRow 0 e sz v' (m + ys.length) (xs ++ news) ∧ w.grownBy w' v.ownBlock ∧ news.length = ys.length * sz ∧ (∀ u ∈ news, u.oneCell' = true) ∧
      (∀ i (h : i < ys.length), R P (f ys[i]) ok w ((news.drop (i * sz)).take sz)) ∧ ∀ b, v'.ownBlock = some b → v.ownBlock = some b ∨ w.heap.size ≤ b := by
  obtain ⟨ad, cap, news, rfl, hl, hn, hc, h1, hR⟩ := hsrc
  have hT' : P.underlying T = some (.slice e) := hT
  obtain ⟨i, hi, hiz⟩ := Option.bind_eq_some_iff.1 hz
  have his : i.size = sz := by unfold Size at hs; rw [hi] at hs; simpa using hs
  have hib : i.bytes = by_ := by unfold Bytes at hby; rw [hi] at hby; simpa using hby
  cases ad with
  | none =>
    have hy := hn rfl
    subst hy
    have hnn : news = [] := by simpa using hl
    subst hnn
    exact ⟨v, w, [], run_append_none 0 T ty e i sz hT' hi v m cap xs w hown, by simpa using hown, grown_refl _ _, by simp, by simp, fun i h => by simp at h, fun b hb' => .inl hb'⟩
  | some a =>
    obtain ⟨v', w', g1, g2, g3, _⟩ := run_append_own (P := P) w 0 T ty e i z sz by_ hT' hi hiz his hib hzs h0 v m xs hown a ys.length cap news hl (hc a rfl) h1 hm hb (Nat.zero_le _)
    refine ⟨v', w', news, g1, g2, g3, hl, h1, hR, ?_⟩
    rcases hown.2 with ⟨rfl, rfl⟩ | ⟨g, cp, cur, rfl, _, hg, hnc, hcm, hcs, htake⟩
    · obtain ⟨v2, w2, k1, k2, _, _⟩ := run_append_own (P := P) w w.heap.size T ty e i z sz by_ hT' hi hiz his hib hzs h0 (.slice none 0 0) 0 xs ⟨hown.1, .inl ⟨rfl, rfl⟩⟩ a ys.length cap news hl (hc a rfl) h1 hm hb (Nat.le_refl _)
      rw [g1] at k1
      cases k1
      intro b hb'
      exact .inr (k2.lt b hb').1
    · by_cases hroom : m + ys.length ≤ cp
      · have hfit : m * i.size + news.length ≤ cur.size := by rw [hl, hcs, his, ← Nat.add_mul]; exact Nat.mul_le_mul_right _ hroom
        have hr := run_append_room (P := P) w T ty e i hT' hi g m cp cur hg a ys.length cap news (by rw [his]; exact hl) (hc a rfl) h1 hroom hfit
        rw [g1] at hr
        cases hr
        intro b hb'
        exact .inl hb'
      · obtain ⟨v2, w2, k1, k2, _⟩ := run_append_arg_grows (P := P) w T ty e i z sz by_ hT' hi hiz his hib hzs h0 ⟨g, 0, none⟩ m cp xs hown.1 (hown.cells (g := g) rfl) a ys.length cap news hl (hc a rfl) (by omega) hm hb
        rw [g1] at k1
        cases k1
        intro b hb'
        exact .inr (k2.lt b hb').1
theorem rows_append {ok : Nat → Prop} {w : World} {sz : Nat} {α : Type} {f : α → D} {xs ys : List α} {cx cy : List Value} (hx : cx.length = xs.length * sz) (hX : ∀ i (h : i < xs.length), R P (f xs[i]) ok w ((cx.drop (i * sz)).take sz))
    (hY : ∀ i (h : i < ys.length), R P (f ys[i]) ok w ((cy.drop (i * sz)).take sz)) : ∀ i (h : i < (xs ++ ys).length), R P (f (xs ++ ys)[i]) ok w (((cx ++ cy).drop (i * sz)).take sz) := by
  intro i hi
  by_cases e : i < xs.length
  · rw [List.getElem_append_left e]
    have hle : i * sz + sz ≤ cx.length := by
      rw [hx]
      calc i * sz + sz = (i + 1) * sz := by rw [Nat.add_mul, Nat.one_mul]
        _ ≤ xs.length * sz := Nat.mul_le_mul_right _ e
    rw [List.drop_append_of_le_length (by omega), List.take_append_of_le_length (by simp; omega)]
    exact hX i e
  · rw [List.getElem_append_right (by omega)]
    have : (cx ++ cy).drop (i * sz) = cy.drop ((i - xs.length) * sz) := by
      have hge : xs.length * sz ≤ i * sz := Nat.mul_le_mul_right _ (by omega)
      rw [List.drop_append]
      rw [List.drop_of_length_le (by omega), List.nil_append, hx, Nat.sub_mul]
    rw [this]
    exact hY _ _
theorem RelB.grown {X : Cx} {t t1 : St} {a : Act} {w w' : World} {β : Nat → Option Nat} {ν : Nat → Value} (hr : RelB P X t a w β ν) (hkill : Kill t t1) {ob d e sz by_ : Nat} {α : Type} {f : α → D} {z : α} {xs : List α} {v' : Value} {cells : List Value} {row : Option Nat}
    (h4 : 10000 ≤ ob) (hdn : d < X.n) (hd4 : d < 10000) (hg : w.grownBy w' row) (hdr : w.drawn ≤ w'.drawn) (hrow : ∀ b, row = some b → ∃ o, live (t o) = true ∧ live (t1 o) = false ∧ β o = some b)
    (hblk : ∀ b, v'.ownBlock = some b → row = some b ∨ w.heap.size ≤ b)
    (hown : w'.ownsRow 0 e sz v' xs.length cells) (h0 : 0 < sz) (hb : xs.length * by_ ≤ 140737488355328) (hl : xs.length ≤ 140737488355328) (h1 : ∀ u ∈ cells, u.oneCell' = true)
    (hR : ∀ i (h : i < xs.length), R P (f xs[i]) (okAt X t β w) w ((cells.drop (i * sz)).take sz)) :
    Rel P X (upd (upd t1 ob (.arr (newVer (t1 ob)) e sz by_ f z xs)) d (.row ob (newVer (t1 ob)))) (a.put (some d) v') w' := by
  refine ⟨updF β ob v'.ownBlock, updF ν ob v', hr.newObj hkill h4 hdn hd4 hg.os hg.tape ⟨hg.output, hdr⟩ hg.size ?_ ?_ rfl rfl ?_⟩
  · intro b hb'
    by_cases er : some b = row
    · right; exact hrow b er.symm
    · left; exact hg.block b hb' er
  · intro b hb'
    rcases hblk b hb' with h | h
    · right; exact hrow b h
    · left
      refine ⟨h, ?_⟩
      have := (hown.lt b hb').2
      exact this
  · intro hok hgo
    refine ⟨⟨cells, by rw [updF_same]; exact hown, by rw [updF_same, updF_same], h0, hb, hl, h1, fun i hi => R_mono _ hok hg.size (hR i hi)⟩, ?_⟩
    refine ⟨_, newVer (t1 ob), rfl, ?_, Nat.le_refl _, fun _ _ => (updF_same ..).symm⟩
    rw [upd_ne _ _ (by omega), upd_same]
    rfl

theorem run_append_op {T : TypeId} {x y : Operand} {a : Act} {w w' : World} {v' : Value} (ho : o.op = .call { callee := .builtin .append, args := #[x, y], argTypes := #[T, T] }) (h : (Builtin.append_ #[T, T] o.type #[a.eval x, a.eval y]).run P w = .ok v' w') :
    (execOp a.eval o).run P w = .ok (.value v') w' := by
  simp [execOp, ho, resolve, invoke, builtin, h]

theorem RelB.src {X : Cx} {t : St} {a : Act} {w : World} {β : Nat → Option Nat} {ν : Nat → Value} (hr : RelB P X t a w β ν) {y : Operand} {sz : Nat} {α : Type} {f : α → D} {z : α} {ys : List α} (h0 : 0 < sz) (hk : ∀ k ∈ kx y, t k = s k) (hy : Sees (ev s y) (.val (.list sz f z ys))) :
    Src P (okAt X t β w) w sz f ys (a.eval y) := src_list h0 (hr.sees hk hy)

theorem ovr_three {t s : St} {d ob o1 : Nat} {x y z : AV} : ovr t [d, ob, o1] (upd (upd (upd s o1 z) ob y) d x) = upd (upd (upd t o1 z) ob y) d x := by
  funext k
  by_cases e : k = d
  · subst e; simp [ovr, upd_same]
  · by_cases e' : k = ob
    · subst e'; simp [ovr, upd_ne _ _ e, upd_same]
    · by_cases e'' : k = o1
      · subst e''; simp [ovr, upd_ne _ _ e, upd_ne _ _ e', upd_same]
      · simp [ovr, e, e', e'', upd_ne _ _ e, upd_ne _ _ e', upd_ne _ _ e'']

theorem off_three {s : St} {d ob o1 : Nat} {x y z : AV} (k : Nat) (h : k ∉ [d, ob, o1]) : upd (upd (upd s o1 z) ob y) d x k = s k := by
  simp only [List.mem_cons, List.not_mem_nil, or_false, not_or] at h
  rw [upd_ne _ _ h.1, upd_ne _ _ h.2.1, upd_ne _ _ h.2.2]

theorem RelB.atRow {X : Cx} {t : St} {a : Act} {w : World} {β : Nat → Option Nat} {ν : Nat → Value} (hr : RelB P X t a w β ν) {x : Operand} {o1 u e sz by_ : Nat} {α : Type} {f : α → D} {z : α} {xs : List α} (hk : ∀ k ∈ o1 :: kx x, t k = s k) (hx : Sees (ev s x) (.row o1 u)) (hb : s o1 = .arr u e sz by_ f z xs) :
    ∃ cells, w.ownsRow 0 e sz (a.eval x) xs.length cells ∧ β o1 = (a.eval x).ownBlock ∧ ν o1 = a.eval x ∧ 0 < sz ∧ xs.length * by_ ≤ 140737488355328 ∧ xs.length ≤ 140737488355328 ∧ (∀ c ∈ cells, c.oneCell' = true) ∧
      ∀ i (h : i < xs.length), R P (f xs[i]) (okAt X t β w) w ((cells.drop (i * sz)).take sz) := by
  obtain ⟨v, k, e1, h1, h2, h3⟩ := hr.sees (fun k hk' => hk k (by simp [hk'])) hx
  simp only [List.cons.injEq, and_true] at e1
  have hob : t o1 = .arr u e sz by_ f z xs := by rw [hk o1 (by simp), hb]
  rw [hob] at h1
  simp only [ver, Option.some.injEq] at h1
  have hv := h3 h1 (by rw [hob]; rfl)
  have ho := hr.obj o1
  rw [hob] at ho
  obtain ⟨cells, g1, g2, g3, g4, g4', g5, g6⟩ := ho
  rw [← hv, ← e1] at g1 g2
  exact ⟨cells, g1, g2, by rw [e1, hv], g3, g4, g4', g5, g6⟩
theorem r_appendR {x y : Operand} {T e sz by_ d ob o1 u : Nat} {zv : Value} {α : Type} {f : α → D} {z z' : α} {xs ys : List α} (ho : o.op = .call { callee := .builtin .append, args := #[x, y], argTypes := #[T, T] }) (hT : IsSlice P T e) (hs : Size P e sz) (hby : Bytes P e by_) (hz : Zero P e zv) (hzs : zv.cells.size = sz)
    (h0 : Nat.blt 0 sz = true) (hx : Sees (ev s x) (.row o1 u)) (hb1 : s o1 = .arr u e sz by_ f z xs) (hy : Sees (ev s y) (.val (.list sz f z' ys))) (hb : (xs.length + ys.length) * by_ ≤ 140737488355328) (hl : xs.length + ys.length ≤ 140737488355328)
    (hd : o.dst = some d) (hg : o.guard = none) (hob : Nat.blt 9999 ob = true) (hn : Nat.blt d n = true) (h4 : Nat.blt d 10000 = true) :
    LStep P n ops o (ob :: o1 :: (kx x ++ kx y), [d, ob, o1]) s (upd (upd (upd s o1 (.dead u)) ob (.arr (newVer (upd s o1 (.dead u) ob)) e sz by_ f z (xs ++ ys))) d (.row ob (newVer (upd s o1 (.dead u) ob)))) := by
  refine ⟨off_three, fun X t a w hX hk hr Q => ?_⟩
  obtain ⟨β, ν, hr⟩ := hr
  have hob' := blt_lt hob
  have hd4 := blt_lt h4
  have hk1 : ∀ k ∈ kx x ++ kx y, t k = s k := fun k hk' => hk k (by simp only [List.mem_cons]; exact .inr (.inr hk'))
  have hto : t ob = s ob := hk ob (by simp)
  have ht1 : t o1 = .arr u e sz by_ f z xs := by rw [hk o1 (by simp), hb1]
  obtain ⟨cells, q1, q2, q2', q3, q4, q4', q5, q6⟩ := hr.atRow (s := s) (fun k hk' => by
    rcases List.mem_cons.1 hk' with rfl | h
    · exact hk _ (by simp)
    · exact hk1 k (List.mem_append_left _ h)) hx hb1
  obtain ⟨v', w', news, g1, g2, g3, g4, g5, g6, g7⟩ := run_append_src (P := P) (ty := o.type) hT hs hby hz hzs (blt_lt h0) q1 (hr.src (blt_lt h0) (kr hk1) hy) (by simp only [maxLen]; omega) hb
  refine opWp_run (by simp [Region.wanted, hg]) (run_append_op ho g1) ?_
  have hnv : newVer (upd s o1 (.dead u) ob) = newVer (upd t o1 (.dead u) ob) := by
    by_cases e1 : ob = o1
    · subst e1; rw [upd_same, upd_same]
    · rw [upd_ne _ _ e1, upd_ne _ _ e1, hto]
  rw [ovr_three, hd, hnv]
  have hlo1 : live (t o1) = true := by rw [ht1]; rfl
  refine hr.grown (Kill.one (by rw [ht1]; rfl)) (by omega) (by rw [hX]; exact blt_lt hn) hd4 g3 (sem_drawn _ g1) (fun b hb' => ⟨o1, hlo1, by rw [upd_same]; rfl, by rw [q2]; exact hb'⟩) g7 (by rw [List.length_append]; exact g2) (blt_lt h0) (by rw [List.length_append]; exact hb) (by rw [List.length_append]; exact hl) ?_ ?_
  · intro v hv
    rcases List.mem_append.1 hv with h | h
    · exact q5 v h
    · exact g5 v h
  · exact rows_append q1.1 q6 g6
def GLe (P : Program) (F : List Nat × List Nat) (s s' : St) : Prop :=
  (∀ k, k ∉ F.2 → s' k = s k) ∧ ∀ (X : Cx) (t : St) (a : Act) (w : World), (∀ k ∈ F.1, t k = s k) → Rel P X t a w → Rel P X (ovr t F.2 s') a w

theorem GLe.le {F : List Nat × List Nat} {s s' : St} (h : GLe P F s s') : Le P s s' := fun X a w hr => by
  have := h.2 X s a w (fun _ _ => rfl) hr
  rwa [ovr_self h.1] at this

theorem LStep.pre {F G : List Nat × List Nat} {s s1 s2 : St} (h1 : GLe P F s s1) (h2 : LStep P n ops o G s1 s2) : LStep P n ops o (F.1 ++ G.1, F.2 ++ G.2) s s2 := by
  refine ⟨fun k hk => ?_, fun X t a w hX hk hr Q => ?_⟩
  · simp only [List.mem_append, not_or] at hk
    rw [h2.1 k hk.2, h1.1 k hk.1]
  · have hr1 := h1.2 X t a w (fun k hk' => hk k (List.mem_append_left _ hk')) hr
    have := h2.2 X _ a w hX (fun k hk' => ?_) hr1 Q
    · refine opWp_mono (fun a' w' h' => ?_) this
      have e : ovr (ovr t F.2 s1) G.2 s2 = ovr t (F.2 ++ G.2) s2 := by
        funext k
        simp only [ovr, List.mem_append]
        by_cases e1 : k ∈ G.2
        · simp [e1]
        · by_cases e2 : k ∈ F.2
          · simp [e1, e2, h2.1 k e1]
          · simp [e1, e2]
      rw [e] at h'
      exact h'
    · simp only [ovr]
      split
      · rfl
      · rename_i hn
        rw [hk k (List.mem_append_right _ hk'), h1.1 k hn]
theorem row_reads {X : Cx} {t t' : St} {w : World} {β : Nat → Option Nat} {sz e m : Nat} {v : Value} {cells : List Value} {α : Type} {f : α → D} {z : α} {xs : List α} (hown : w.ownsRow 0 e sz v m cells) (hm : m = xs.length) (hok : ∀ b, okAt X t β w b → okAt X t' β w b) (hb : ∀ b, v.ownBlock = some b → okAt X t' β w b)
    (h1 : ∀ c ∈ cells, c.oneCell' = true) (hl : xs.length ≤ 140737488355328) (hR : ∀ i (h : i < xs.length), R P (f xs[i]) (okAt X t β w) w ((cells.drop (i * sz)).take sz)) : RV P (.list sz f z xs) (okAt X t' β w) w v := by
  subst hm
  rcases hown.2 with ⟨rfl, h0⟩ | ⟨g, cap, cur, rfl, _, hg, hnc, hcm, hcs, htake⟩
  · have : xs = [] := List.eq_nil_of_length_eq_zero h0
    subst this
    exact ⟨rfl, none, 0, rfl, Nat.le_refl _, Nat.zero_le _, Nat.zero_le _, fun i hi => by simp at hi⟩
  · refine ⟨rfl, some ⟨g, 0, none⟩, cap, rfl, hnc, hcm, hl, fun i hi => ?_⟩
    have hlen : ((cells.drop (i * sz)).take sz).length = sz := by
      have : (i + 1) * sz ≤ xs.length * sz := Nat.mul_le_mul_right _ hi
      rw [Nat.add_mul, Nat.one_mul] at this
      simp [hown.1]
      omega
    refine ⟨⟨g, 0, none⟩, (cells.drop (i * sz)).take sz, rfl, rfl, hb g rfl, hlen, fun c hc => h1 c (List.mem_of_mem_drop (List.mem_of_mem_take hc)), ?_, R_mono _ (fun b hb' => ⟨hok b hb', rfl⟩) (Nat.le_refl _) (hR i hi)⟩
    intro j hj
    have hc := hown.cells (g := g) rfl (i * sz + j) (((cells.drop (i * sz)).take sz)[j]) (by
      rw [← List.getElem?_drop, ← List.getElem?_eq_getElem, List.getElem?_take, if_pos (by rw [hlen] at hj; exact hj)])
    rw [Addr.add_none rfl] at hc
    simpa using hc
theorem g_freeze {o1 u k e sz by_ : Nat} {α : Type} {f : α → D} {z : α} {xs : List α} (hk4 : Nat.blt k 10000 = true) (ho4 : Nat.blt 9999 o1 = true) (hx : s k = .row o1 u) (hb : s o1 = .arr u e sz by_ f z xs) :
    GLe P ([o1, k], [k, o1]) s (upd (upd s o1 (.dead u)) k (.val (.list sz f z xs))) := by
  refine ⟨off_two, fun X t a w hk hr => ?_⟩
  obtain ⟨β, ν, hr⟩ := hr
  have hk' := blt_lt hk4
  have ho' := blt_lt ho4
  rw [ovr_two (by omega)]
  have hto : t o1 = .arr u e sz by_ f z xs := by rw [hk o1 (by simp), hb]
  have hev : ev s (.tmp k) = .row o1 u := by simp only [ev, hk4, cond_true]; exact hx
  obtain ⟨cells, q1, q2, q2', q3, q4, q4', q5, q6⟩ := hr.atRow (s := s) (x := .tmp k) (fun j hj => by
    simp only [kx, List.mem_cons, List.not_mem_nil, or_false] at hj
    exact hk j (by simp only [List.mem_cons, List.not_mem_nil, or_false]; exact hj)) (Sees.of hev) hb
  have hlo : live (t o1) = true := by rw [hto]; rfl
  have hs : ∀ j, j ≠ o1 → j ≠ k → upd (upd t o1 (.dead u)) k (.val (.list sz f z xs)) j = t j := fun j h1 h2 => by rw [upd_ne _ _ h2, upd_ne _ _ h1]
  have hso : upd (upd t o1 (.dead u)) k (.val (.list sz f z xs)) o1 = .dead u := by rw [upd_ne _ _ (by omega), upd_same]
  have hlv : ∀ j, live (upd (upd t o1 (.dead u)) k (.val (.list sz f z xs)) j) = true → j ≠ o1 ∧ j ≠ k ∧ upd (upd t o1 (.dead u)) k (.val (.list sz f z xs)) j = t j := by
    intro j hj
    have h1 : j ≠ o1 := by rintro rfl; rw [hso] at hj; cases hj
    have h2 : j ≠ k := by rintro rfl; rw [upd_same] at hj; cases hj
    exact ⟨h1, h2, hs j h1 h2⟩
  have hgoes : Goes t (upd (upd t o1 (.dead u)) k (.val (.list sz f z xs))) β β ν ν := by
    intro j m hm
    by_cases e1 : j = o1
    · subst e1
      rw [hto] at hm
      simp only [ver, Option.some.injEq] at hm
      exact ⟨u, by rw [hso]; rfl, by omega, fun _ hl => by rw [hso] at hl; cases hl⟩
    · by_cases e2 : j = k
      · subst e2; rw [hr.keys j hk'] at hm; cases hm
      · refine ⟨m, by rw [hs j e1 e2]; exact hm, Nat.le_refl _, fun _ hl => ⟨by rw [← hs j e1 e2]; exact hl, rfl, rfl⟩⟩
  have hok : ∀ b, okAt X t β w b → okAt X (upd (upd t o1 (.dead u)) k (.val (.list sz f z xs))) β w b ∧ w.heap[b]? = w.heap[b]? := by
    intro b hb'
    refine ⟨⟨hb'.1, hb'.2.1, fun j hl => hb'.2.2 j ?_⟩, rfl⟩
    rw [← (hlv j hl).2.2]; exact hl
  refine ⟨β, ν, hr.move rfl rfl ⟨rfl, Nat.le_refl _⟩ (Nat.le_refl _) (fun _ _ _ => rfl) hok hgoes ?_ ?_ ?_ ?_ ?_ rfl rfl (fun hv => .inl (hs _ (by intro e; rw [e, hso] at hv; cases hv) (by omega)))⟩
  · intro j b hl hb'; exact .inl ⟨by rw [← (hlv j hl).2.2]; exact hl, hb'⟩
  · intro j j' b hl hl' h1 h2
    exact hr.inj j j' b (by rw [← (hlv j hl).2.2]; exact hl) (by rw [← (hlv j' hl').2.2]; exact hl') h1 h2
  · intro j hl; exact .inl ⟨(hlv j hl).2.2, rfl, rfl, fun _ _ => rfl⟩
  · intro j hj
    by_cases e2 : j = k
    · subst e2
      right
      rw [upd_same]
      refine ⟨_, rfl, ?_⟩
      refine row_reads (t := t) q1 rfl (fun b hb' => (hok b hb').1) (fun b hb' => ?_) q5 q4' q6
      have hβ : β o1 = some b := by rw [q2]; exact hb'
      have hw := hr.own o1 b hlo hβ
      refine ⟨.inr hw.1, hw.2, fun j' hl hj' => ?_⟩
      obtain ⟨e3, _, e4⟩ := hlv j' hl
      exact e3 (hr.inj j' o1 b (by rw [← e4]; exact hl) hlo hj' hβ)
    · left; exact ⟨hs j (by omega) e2, rfl⟩
  · intro j hj
    by_cases e2 : j = k
    · subst e2; rw [upd_same]; rfl
    · rw [hs j (by omega) e2]; exact hr.keys j hj
theorem g_adopt {ob k : Nat} (e sz by_ : Nat) {α : Type} (f : α → D) (z : α) (h0 : Nat.blt 0 sz = true) (hk4 : Nat.blt k 10000 = true) (ho4 : Nat.blt 9999 ob = true) (hx : s k = .emp) :
    GLe P ([ob, k], [k, ob]) s (upd (upd s ob (.arr (newVer (s ob)) e sz by_ f z [])) k (.row ob (newVer (s ob)))) := by
  refine ⟨off_two, fun X t a w hk hr => ?_⟩
  obtain ⟨β, ν, hr⟩ := hr
  have hk' := blt_lt hk4
  have ho' := blt_lt ho4
  rw [ovr_two (by omega)]
  have hto : t ob = s ob := hk ob (by simp)
  have hv := hr.slot k hk'
  rw [hk k (by simp), hx] at hv
  simp only [VR, List.cons.injEq, and_true] at hv
  by_cases hkn : k < X.n
  · have := hr.grown (t1 := t) (ob := ob) (d := k) (e := e) (sz := sz) (by_ := by_) (f := f) (z := z) (xs := []) (v' := .slice none 0 0) (cells := []) (row := none) (w' := w) (Kill.refl t) (by omega) hkn hk' (grown_refl w none) (Nat.le_refl _) (fun b hb' => by cases hb') (fun b hb' => by cases hb')
      (World.ownsRow_nil w 0 e sz) (blt_lt h0) (by simp) (by simp) (by simp) (fun i hi => by simp at hi)
    rw [← hto]
    have ea : a.put (some k) (.slice none 0 0) = a := by
      cases a with
      | mk tm df =>
        simp only [Act.put, Act.mk.injEq, and_true]
        apply Array.ext
        · simp
        · intro i h1 h2
          rw [Array.getElem_setIfInBounds h2]
          split
          · rename_i e'; subst e'
            have hlt : k < tm.size := by have := hr.tmps; simp at this; omega
            simp [Array.getD, hlt] at hv
            exact hv.symm
          · rfl
    rw [ea] at this
    exact this
  · exfalso
    have hge : a.tmps.size ≤ k := by rw [hr.tmps]; omega
    rw [Array.getD_eq_getD_getElem?, Array.getElem?_eq_none hge] at hv
    cases hv

theorem p_lenR {x : Operand} {T e' o1 u e sz by_ : Nat} {α : Type} {f : α → D} {z : α} {xs : List α} (ho : o.op = .call { callee := .builtin .len, args := #[x], argTypes := #[T] }) (hT : IsSlice P T e') (hx : Sees (ev s x) (.row o1 u)) (hb : s o1 = .arr u e sz by_ f z xs) :
    PStep P o (o1 :: kx x) s (.val (.int .i64 xs.length)) := by
  intro X t a w β ν hk hr
  obtain ⟨cells, q1, _⟩ := hr.atRow hk hx hb
  refine ⟨rfl, .int .i64 xs.length, ?_, mk_int _ _ _⟩
  have hT' : P.underlying T = some (.slice e') := hT
  have hv : ∃ ad cap, a.eval x = .slice ad xs.length cap := by
    rcases q1.2 with ⟨h1, h2⟩ | ⟨g, cap, cur, h1, _⟩
    · exact ⟨none, 0, by rw [h1, h2]⟩
    · exact ⟨_, cap, h1⟩
  obtain ⟨ad, cap, hv⟩ := hv
  simp [execOp, ho, resolve, invoke, builtin, Builtin.len_, run_underlying' hT', hv, goInt]

theorem p_indexR {x i : Operand} {T o1 u e sz by_ m : Nat} {k : IntKind} {α : Type} {f : α → D} {z : α} {xs : List α} (ho : o.op = .indexAddr T x i) (hT : IsSlice P T e) (hs : Size P e sz) (hx : Sees (ev s x) (.row o1 u)) (hb : s o1 = .arr u e sz by_ f z xs)
    (hi : Sees (ev s i) (.val (.int k (m : Int)))) (h1 : m < xs.length) : PStep P o ((o1 :: kx x) ++ kx i) s (.elt o1 u sz m) := by
  intro X t a w β ν hk hr
  obtain ⟨cells, q1, q2, q2', q3, _⟩ := hr.atRow (kl hk) hx hb
  rcases q1.2 with ⟨_, h2⟩ | ⟨g, cap, cur, hv, _, hg, _⟩
  · omega
  · refine ⟨rfl, .pointer (some ⟨g, m * sz, none⟩), ?_, ?_⟩
    · have hT' : P.underlying T = some (.slice e) := hT
      have hii := hr.int (kr hk) hi
      simp [execOp, ho, Instr.indexAt, hii, hv, asIntOf, run_underlying' hT', run_sizeOf hs, h1, Addr.add_none]
    · have hto : t o1 = .arr u e sz by_ f z xs := by rw [hk o1 (by simp), hb]
      refine ⟨_, u, rfl, by rw [hto]; rfl, Nat.le_refl _, fun _ _ => ⟨g, ?_, rfl⟩⟩
      rw [q2, hv]; rfl

theorem p_indexRZ {x i : Operand} {T o1 u e sz by_ : Nat} {k : IntKind} {m : Int} {α : Type} {f : α → D} {z : α} {xs : List α} (ho : o.op = .indexAddr T x i) (hT : IsSlice P T e) (hs : Size P e sz) (hx : Sees (ev s x) (.row o1 u)) (hb : s o1 = .arr u e sz by_ f z xs)
    (hi : Sees (ev s i) (.val (.int k m))) (h0 : 0 ≤ m) (h1 : m < xs.length) : PStep P o ((o1 :: kx x) ++ kx i) s (.elt o1 u sz m.toNat) := by
  obtain ⟨j, rfl⟩ := Int.eq_ofNat_of_zero_le h0
  have := p_indexR (P := P) (m := j) ho hT hs hx hb hi (by omega)
  simpa using this

theorem RelB.atElt {X : Cx} {t : St} {a : Act} {w : World} {β : Nat → Option Nat} {ν : Nat → Value} (hr : RelB P X t a w β ν) {x : Operand} {o1 u e sz by_ m : Nat} {α : Type} {f : α → D} {z : α} {xs : List α} (hk : ∀ k ∈ o1 :: kx x, t k = s k) (hx : Sees (ev s x) (.elt o1 u sz m)) (hb : s o1 = .arr u e sz by_ f z xs) (hm : m < xs.length) :
    ∃ g cap cur cells, ν o1 = .slice (some ⟨g, 0, none⟩) xs.length cap ∧ β o1 = some g ∧ a.eval x = .pointer (some ⟨g, m * sz, none⟩) ∧ w.heap[g]? = some (.cells cur e (0, 0)) ∧ w.ownsRow 0 e sz (ν o1) xs.length cells ∧ cur.toList.take (xs.length * sz) = cells ∧ cur.size = cap * sz ∧ xs.length ≤ cap ∧ cap ≤ maxLen ∧ 0 < sz ∧
      xs.length * by_ ≤ 140737488355328 ∧ xs.length ≤ 140737488355328 ∧ (∀ c ∈ cells, c.oneCell' = true) ∧ ∀ i (h : i < xs.length), R P (f xs[i]) (okAt X t β w) w ((cells.drop (i * sz)).take sz) := by
  obtain ⟨v, k, e1, h1, h2, h3⟩ := hr.sees (fun k hk' => hk k (by simp [hk'])) hx
  simp only [List.cons.injEq, and_true] at e1
  have hob : t o1 = .arr u e sz by_ f z xs := by rw [hk o1 (by simp), hb]
  rw [hob] at h1
  simp only [ver, Option.some.injEq] at h1
  obtain ⟨g, h4, h5⟩ := h3 h1 (by rw [hob]; rfl)
  have ho := hr.obj o1
  rw [hob] at ho
  obtain ⟨cells, g1, g2, g3, g4, g4', g5, g6⟩ := ho
  rcases g1.2 with ⟨_, h6⟩ | ⟨g', cap, cur, hv, _, hg, hnc, hcm, hcs, htake⟩
  · omega
  · rw [g2, hv] at h4
    simp only [Value.ownBlock, Option.some.injEq] at h4
    subst h4
    exact ⟨g', cap, cur, cells, hv, by rw [g2, hv]; rfl, by rw [e1, h5], hg, g1, htake, hcs, hnc, hcm, g3, g4, g4', g5, g6⟩
theorem p_loadE {x : Operand} {T o1 u e by_ m : Nat} {α : Type} {f : α → D} {z : α} {xs : List α} (ho : o.op = .load T x) (hT : IsAgg P T false) (hx : Sees (ev s x) (.elt o1 u 1 m)) (hb : s o1 = .arr u e 1 by_ f z xs) (hm : m < xs.length) (hd : ∀ x, (f x).one = true) : PStep P o (o1 :: kx x) s (.val (f (xs.getD m z))) := by
  intro X t a w β ν hk hr
  obtain ⟨g, cap, cur, cells, q1, q2, q3, q4, q5, q6, q7, q8, q9, q10, q11, q12, q13, q14⟩ := hr.atElt hk hx hb hm
  have hR := q14 m hm
  obtain ⟨v, hv, hvr⟩ := R_one (hd _) hR
  have hget : xs.getD m z = xs[m] := by simp [List.getD, hm]
  refine ⟨rfl, v, ?_, ⟨v, rfl, by rw [hget]; exact hvr⟩⟩
  have hc : cells[m]? = some v := by
    have : ((cells.drop (m * 1)).take 1)[0]? = some v := by rw [hv]; rfl
    rw [List.getElem?_take, if_pos (by omega), List.getElem?_drop] at this
    simpa using this
  have hcell := q5.cells (g := g) (by rw [q1]; rfl) m v hc
  rw [Addr.add_none rfl] at hcell
  simp only [Nat.zero_add] at hcell
  simp [execOp, ho, Instr.loadAt, q3, Instr.sureAddr, loadVar, run_isAgg hT, hcell]

end
end Go.Um

/- Rows: stores of elements, literals and makes as rows, rows in variables, rows as arguments. No condition. -/

namespace Go.Um
open Go Go.RowKit

section
variable {P : Program} {n : Nat} {ops : Array Oper} {s : St} {o : Oper}
theorem RelB.setRow {X : Cx} {t : St} {a : Act} {w : World} {β : Nat → Option Nat} {ν : Nat → Value} (hr : RelB P X t a w β ν) {o1 u e sz by_ g cap : Nat} {α : Type} {f : α → D} {z : α} {xs xs' : List α} {cur cur' : Array Value} {cells' : List Value} (h4 : 10000 ≤ o1) (hb : t o1 = .arr u e sz by_ f z xs)
    (hν : ν o1 = .slice (some ⟨g, 0, none⟩) xs.length cap) (hβ : β o1 = some g) (hh : w.heap[g]? = some (.cells cur e (0, 0))) (hsz : cur'.size = cap * sz) (hcap : xs.length ≤ cap) (hcm : cap ≤ maxLen) (h0 : 0 < sz) (hby : xs.length * by_ ≤ 140737488355328) (hlim : xs.length ≤ 140737488355328) (hl : xs'.length = xs.length)
    (htake : cur'.toList.take (xs.length * sz) = cells') (h1 : ∀ c ∈ cells', c.oneCell' = true) (hR : ∀ i (h : i < xs'.length), R P (f xs'[i]) (okAt X t β w) w ((cells'.drop (i * sz)).take sz)) :
    RelB P X (upd t o1 (.arr u e sz by_ f z xs')) a (w.setRow g cur') β ν := by
  have hlv : ∀ o, live (upd t o1 (.arr u e sz by_ f z xs') o) = live (t o) ∧ ver (upd t o1 (.arr u e sz by_ f z xs') o) = ver (t o) := by
    intro o
    by_cases e : o = o1
    · subst e; rw [upd_same, hb]; exact ⟨rfl, rfl⟩
    · rw [upd_ne _ _ e]; exact ⟨rfl, rfl⟩
  have hlob : live (t o1) = true := by rw [hb]; rfl
  have hgoes : Goes t (upd t o1 (.arr u e sz by_ f z xs')) β β ν ν := fun o k hk => ⟨k, by rw [(hlv o).2]; exact hk, Nat.le_refl _, fun _ hl => ⟨by rw [← (hlv o).1]; exact hl, rfl, rfl⟩⟩
  have hok : ∀ b', okAt X t β w b' → okAt X (upd t o1 (.arr u e sz by_ f z xs')) β (w.setRow g cur') b' ∧ (w.setRow g cur').heap[b']? = w.heap[b']? := by
    intro b' hb'
    refine ⟨⟨hb'.1, by simpa using hb'.2.1, fun o hl => hb'.2.2 o (by rw [← (hlv o).1]; exact hl)⟩, ?_⟩
    exact setRow_other w g b' cur' (fun e => hb'.2.2 o1 hlob (by rw [hβ, e]))
  refine hr.move rfl rfl ⟨rfl, Nat.le_refl _⟩ (by simp) ?_ hok hgoes ?_ ?_ ?_ ?_ ?_ rfl rfl (fun hv => .inl (upd_ne _ _ (by intro e; rw [e, upd_same] at hv; cases hv)))
  · intro b' hb' hn
    refine setRow_other w g b' cur' (fun e => ?_)
    subst e
    rcases (hr.own o1 b' hlob hβ).1 with h | h
    · omega
    · exact hn h
  · intro o b' hl hb'; exact .inl ⟨by rw [← (hlv o).1]; exact hl, hb'⟩
  · intro o o' b' hl hl' hb1 hb2
    exact hr.inj o o' b' (by rw [← (hlv o).1]; exact hl) (by rw [← (hlv o').1]; exact hl') hb1 hb2
  · intro o hl'
    by_cases e' : o = o1
    · subst e'
      right
      rw [upd_same]
      refine ⟨cells', ?_, by rw [hβ, hν]; rfl, h0, by rw [hl]; exact hby, by rw [hl]; exact hlim, h1, fun i hi => R_mono _ hok (by simp) (hR i hi)⟩
      rw [hν, hl]
      refine ⟨?_, .inr ⟨g, cap, cur', rfl, Nat.zero_le _, setRow_heap w g cur cur' e _ hh, hcap, hcm, hsz, htake⟩⟩
      rw [← htake, List.length_take]
      have h9 : cur'.toList.length = cap * sz := by simpa using hsz
      have : xs.length * sz ≤ cap * sz := Nat.mul_le_mul_right _ hcap
      omega
    · left
      refine ⟨upd_ne _ _ e', rfl, rfl, fun b' hb' => setRow_other w g b' cur' (fun e2 => e' ?_)⟩
      subst e2
      exact hr.inj o o1 b' (by rw [← (hlv o).1]; exact hl') hlob hb' hβ
  · intro k hk
    left
    exact ⟨upd_ne _ _ (by omega), rfl⟩
  · intro k hk
    rw [(hlv k).2]
    exact hr.keys k hk
theorem r_storeE {x y : Operand} {T o1 u e by_ m : Nat} {α : Type} {f : α → D} {z v : α} {xs : List α} (ho : o.op = .store T x y) (hs : Size P T 1) (hd : o.dst = none) (hg : o.guard = none) (hob : Nat.blt 9999 o1 = true) (hx : Sees (ev s x) (.elt o1 u 1 m)) (hb : s o1 = .arr u e 1 by_ f z xs) (hm : m < xs.length)
    (hy : Sees (ev s y) (.val (f v))) (hone : (f v).one = true) : LStep P n ops o ((o1 :: kx x) ++ kx y, [o1]) s (upd s o1 (.arr u e 1 by_ f z (xs.set m v))) := by
  refine ⟨upd_off, fun X t a w hX hk hr Q => ?_⟩
  obtain ⟨β, ν, hr⟩ := hr
  obtain ⟨g, cap, cur, cells, q1, q2, q3, q4, q5, q6, q7, q8, q9, q10, q11, q12, q13, q14⟩ := hr.atElt (kl hk) hx hb hm
  obtain ⟨q, e1, hv⟩ := hr.sees (kr hk) hy
  simp only [List.cons.injEq, and_true] at e1
  subst e1
  obtain ⟨r1, r2⟩ := RV_one hone hv
  have hcl : (a.eval y).cells.toList = [a.eval y] := by
    generalize a.eval y = q at r2
    cases q <;> simp_all [Value.cells, Value.oneCell']
  have hcz : (a.eval y).cells.size = 1 := by rw [← Array.length_toList, hcl]; rfl
  have hlt : m < cur.size := by rw [q7]; omega
  have hrun : (execOp a.eval o).run P w = .ok .skip (w.setRow g (cur.toList.set m (a.eval y)).toArray) := by
    have hst := run_storeCells_at (P := P) g (m * 1) e [a.eval y] 0 cur w q4 (by simp; omega) (by simpa using r2)
    have e : (cur.toList.take (m * 1 + 0) ++ [a.eval y] ++ cur.toList.drop (m * 1 + 0 + [a.eval y].length)) = cur.toList.set m (a.eval y) := by
      simp only [Nat.mul_one, Nat.add_zero, List.length_singleton, List.append_assoc, List.singleton_append]
      rw [List.set_eq_take_append_cons_drop]
      simp [hlt]
    rw [e] at hst
    simp [execOp, ho, Instr.storeAt, q3, Instr.sureAddr, storeVar, run_sizeOf hs, hcz, hcl]
    simp only [Nat.mul_one] at hst
    rw [hst]
    rfl
  refine opWp_skip (by simp [Region.wanted, hg]) hd hrun ?_
  rw [ovr_one]
  have hob' := blt_lt hob
  have hcells : (cur.toList.set m (a.eval y)).toArray.toList.take (xs.length * 1) = cells.set m (a.eval y) := by
    simp only [Nat.mul_one] at q6 ⊢
    rw [← q6, List.take_set]
  refine ⟨β, ν, hr.setRow (by omega) (by rw [hk o1 (by simp), hb]) q1 q2 q4 (by simpa using q7) q8 q9 q10 q11 q12 (by simp) hcells ?_ ?_⟩
  · intro c hc
    rcases List.mem_or_eq_of_mem_set hc with h | h
    · exact q13 c h
    · rw [h]; exact r2
  · intro i hi
    simp only [List.length_set] at hi
    have h14 := q14 i hi
    simp only [Nat.mul_one] at h14 ⊢
    by_cases e : i = m
    · subst e
      rw [List.getElem_set_self]
      have hlc : i < cells.length := by have := q5.1; omega
      have : ((cells.set i (a.eval y)).drop i).take 1 = [a.eval y] := by
        rw [List.drop_eq_getElem_cons (by simpa using hlc)]
        simp
      rw [this]
      exact r1
    · rw [List.getElem_set_ne (fun h => e h.symm)]
      have : ((cells.set m (a.eval y)).drop i).take 1 = (cells.drop i).take 1 := by
        apply List.ext_getElem?
        intro j
        rw [List.getElem?_take, List.getElem?_take]
        split
        · rename_i hj
          obtain rfl : j = 0 := by omega
          rw [List.getElem?_drop, List.getElem?_drop, List.getElem?_set]
          simp [fun h => e (Eq.symm h)]
          intro h; exact absurd h.symm e
        · rfl
      rw [this]
      exact h14
theorem r_buildRow {T e sz by_ k d ob : Nat} {zv : Value} {xs : List Operand} {α : Type} {f : α → D} {za : α} {as : List α} (ho : o.op = .buildSlice T k ((List.range' 0 xs.length).zip xs).toArray) (hk : k = xs.length) (hT : IsSlice P T e) (hs : Size P e sz) (hz : Zero P e zv)
    (h0 : Nat.blt 0 sz = true) (hbig : Nat.blt (xs.length * sz) 16777216 = true) (hby : xs.length * by_ ≤ 140737488355328) (hx : Elems s sz f xs as) (hd : o.dst = some d) (hg : o.guard = none) (hob : Nat.blt 9999 ob = true) (hn : Nat.blt d n = true) (h4 : Nat.blt d 10000 = true) :
    LStep P n ops o (ob :: kxl xs, [d, ob]) s (upd (upd s ob (.arr (newVer (s ob)) e sz by_ f za as)) d (.row ob (newVer (s ob)))) := by
  refine ⟨off_two, fun X t a w hX hk' hr Q => ?_⟩
  obtain ⟨β, ν, hr⟩ := hr
  have hob' := blt_lt hob
  have hd4 := blt_lt h4
  obtain ⟨h1, h2, h3⟩ := hr.elems xs as (fun j hj => hk' j (by simp [hj])) hx
  have hrun := run_buildSlice (P := P) (vs := xs.map a.eval) hT hs hz (blt_lt h0) (by have := blt_lt hbig; simp; omega) (fun v hv => (h2 v hv).1) w
  have hz' : ∀ (l : List Nat) (xs : List Operand), (l.zip xs).map (fun p => (p.1, a.eval p.2)) = l.zip (xs.map a.eval) := by
    intro l
    induction l with
    | nil => intro xs; simp
    | cons i l ih => intro xs; cases xs <;> simp [ih]
  have hrun' : (execOp a.eval o).run P w = .ok (.value (.slice (some ⟨w.heap.size, 0, none⟩) xs.length xs.length)) (w.alloc (.cells (cat (xs.map a.eval)).toArray e)) := by
    simp only [List.length_map] at hrun
    simp only [execOp, ho, hk]
    rw [List.map_toArray, hz' (List.range' 0 xs.length) xs]
    simp [hrun]
  refine opWp_run (by simp [Region.wanted, hg]) hrun' ?_
  rw [ovr_two (by omega), hd]
  have hto : t ob = s ob := hk' ob (by simp)
  rw [← hto]
  have hcl := cat_len (sz := sz) (xs.map a.eval) (fun v hv => (h2 v hv).1)
  simp only [List.length_map] at hcl
  have h0' := blt_lt h0
  have hb' := blt_lt hbig
  have hxle := Nat.le_mul_of_pos_right xs.length h0'
  refine hr.grown (row := none) (cells := cat (xs.map a.eval)) (Kill.refl t) (by omega) (by rw [hX]; exact blt_lt hn) hd4 ⟨rfl, rfl, rfl, by simp, fun b hb _ => Below.heap_alloc _ _ _ hb⟩ (Nat.le_refl _) (fun b hb => by cases hb) (fun b hb => ?_) ?_ h0' (by rw [h1]; exact hby) (by rw [h1]; omega) ?_ ?_
  · simp only [Value.ownBlock, Option.some.injEq] at hb
    right; omega
  · rw [h1]
    exact ⟨hcl, .inr ⟨w.heap.size, xs.length, _, rfl, Nat.zero_le _, heap_new w _, Nat.le_refl _, by simp only [maxLen]; omega, by simp [hcl], by rw [List.take_of_length_le (by simp [hcl])]⟩⟩
  · intro u hu
    simp only [cat, List.mem_flatMap] at hu
    obtain ⟨v, hv, huv⟩ := hu
    exact (h2 v hv).2 u huv
  · intro i hi
    have hi' : i < (xs.map a.eval).length := by simp; omega
    rw [cat_get (sz := sz) (xs.map a.eval) i hi' (fun v hv => (h2 v hv).1)]
    exact h3 i hi hi'
theorem r_storeR {x y : Operand} {T ob u off o1 u1 e sz by_ : Nat} {α : Type} {f : α → D} {z : α} {xs : List α} {c : AV} (ho : o.op = .store T x y) (hs : Size P T 1) (hd : o.dst = none) (hg : o.guard = none) (hob : Nat.blt 9999 ob = true) (hx : Sees (ev s x) (.ref ob u off)) (hb : s ob = .box u c) (hi : Nat.blt off c.len = true)
    (hy : Sees (ev s y) (.row o1 u1)) (hb1 : s o1 = .arr u1 e sz by_ f z xs) : LStep P n ops o ((ob :: kx x) ++ (o1 :: kx y), [ob]) s (upd s ob (.box u (c.set off (.row o1 u1)))) := by
  refine ⟨upd_off, fun X t a w hX hk hr Q => ?_⟩
  obtain ⟨β, ν, hr⟩ := hr
  obtain ⟨b, cs, ty, g1, g2, g3, g4, g5⟩ := hr.atBox (kl hk) hx hb
  obtain ⟨cells, q1, _⟩ := hr.atRow (kr hk) hy hb1
  have hv := hr.sees (fun k hk' => kr hk k (by simp [hk'])) hy
  have hv1 : (a.eval y).oneCell' = true := by
    rcases q1.2 with ⟨h, _⟩ | ⟨_, _, _, h, _⟩ <;> rw [h] <;> rfl
  have hlt : off < cs.size := by
    obtain ⟨q, hq, _⟩ := VR_nth c off g5 (blt_lt hi)
    have := (List.getElem?_eq_some_iff.1 hq).1
    simpa using this
  have hcl : (a.eval y).cells.toList = [a.eval y] := by
    generalize a.eval y = q at hv1
    cases q <;> simp_all [Value.cells, Value.oneCell']
  have hcz : (a.eval y).cells.size = 1 := by rw [← Array.length_toList, hcl]; rfl
  have hrun : (execOp a.eval o).run P w = .ok .skip (w.setRow b (cs.toList.set off (a.eval y)).toArray) := by
    have hst := run_storeCells_at (P := P) b off ty [a.eval y] 0 cs w g3 (by simp; omega) (by simpa using hv1)
    have e : (cs.toList.take (off + 0) ++ [a.eval y] ++ cs.toList.drop (off + 0 + [a.eval y].length)) = cs.toList.set off (a.eval y) := by
      simp only [Nat.add_zero, List.length_singleton, List.append_assoc, List.singleton_append]
      rw [List.set_eq_take_append_cons_drop]
      simp [hlt]
    rw [e] at hst
    simp [execOp, ho, Instr.storeAt, g1, Instr.sureAddr, storeVar, run_sizeOf hs, hcz, hcl, hst]
  refine opWp_skip (by simp [Region.wanted, hg]) hd hrun ?_
  rw [ovr_one]
  have hob' := blt_lt hob
  refine ⟨β, ν, hr.setBox (by omega) (by rw [hk ob (by simp), hb]) g2 g3 ?_ ?_⟩
  · intro q hq
    rcases List.mem_or_eq_of_mem_set hq with h | h
    · exact g4 q h
    · rw [h]; exact hv1
  · exact VR_set c off _ _ g5 (blt_lt hi) hv
end
end Go.Um

/- Functions as values; rows and variables shown to a call that only reads. No condition. -/

namespace Go.Um
open Go Go.RowKit
def D.flat : D → Bool
  | .int .. => true
  | .bool _ => true
  | .str _ => true
  | .nil => true
  | .cons a b => a.flat && b.flat
  | .agg c => c.flat
  | .tup c => c.flat
  | .any => true
  | _ => false

theorem R_flat {P : Program} : ∀ (d : D) {ok ok' : Nat → Prop} {w w' : World} {vs : List Value}, d.flat = true → R P d ok w vs → R P d ok' w' vs := by
  intro d
  induction d with
  | int k n => intro ok ok' w w' vs _ h; exact h
  | bool b => intro ok ok' w w' vs _ h; exact h
  | str s => intro ok ok' w w' vs _ h; exact h
  | nil => intro ok ok' w w' vs _ h; exact h
  | cons a b iha ihb =>
    intro ok ok' w w' vs hf h
    simp only [D.flat, Bool.and_eq_true] at hf
    obtain ⟨v, vs', rfl, h1, h2, h3⟩ := h
    exact ⟨v, vs', rfl, h1, iha hf.1 h2, ihb hf.2 h3⟩
  | agg c ih => intro ok ok' w w' vs hf h; exact ih hf h
  | tup c ih =>
    intro ok ok' w w' vs hf h
    obtain ⟨ws, rfl, h1⟩ := h
    exact ⟨ws, rfl, ih hf h1⟩
  | list s f z xs _ => intro ok ok' w w' vs hf h; cases hf
  | fn f g _ _ => intro ok ok' w w' vs hf h; cases hf
  | sl b d _ => intro ok ok' w w' vs hf h; cases hf
  | any => intro ok ok' w w' vs _ h; exact h
  | ptr d _ => intro ok ok' w w' vs hf h; cases hf
  | clp d _ => intro ok ok' w w' vs hf h; cases hf
  | ifc T d _ => intro ok ok' w w' vs hf h; cases hf
def okq (q : Bool) (X : Cx) (t : St) (β : Nat → Option Nat) (w : World) : Nat → Prop := okAt X (bif q then (fun _ => AV.any) else t) β w

theorem okq_of {q : Bool} {X : Cx} {t : St} {β : Nat → Option Nat} {w : World} {b : Nat} (h : okAt X t β w b) : okq q X t β w b := by
  cases q with
  | false => exact h
  | true => exact ⟨h.1, h.2.1, fun o hl => by cases hl⟩

section
variable {P : Program} {n : Nat} {ops : Array Oper} {s : St} {o : Oper}
def Shows (q : Bool) (P : Program) (K : List Nat) (s : St) (x y : AV) : Prop :=
  ∀ (X : Cx) (t : St) (a : Act) (w : World) (β : Nat → Option Nat) (ν : Nat → Value) (v : Value), (∀ k ∈ K, t k = s k) → RelB P X t a w β ν → VR P (okAt X t β w) w t β ν x [v] →
    VR P (okq q X t β w) w (fun _ => .any) (fun _ => none) (fun _ => undef) y [v]
def ShowsC (q : Bool) (P : Program) (K : List Nat) (s : St) (x : AV) (y : D) : Prop :=
  ∀ (X : Cx) (t : St) (a : Act) (w : World) (β : Nat → Option Nat) (ν : Nat → Value) (vs : List Value), (∀ k ∈ K, t k = s k) → RelB P X t a w β ν → VR P (okAt X t β w) w t β ν x vs → R P y (okq q X t β w) w vs

theorem sh_of {q : Bool} {x y : AV} (h : Sees x y) (hm : ment y = []) : Shows q P [] s x y := fun _ _ _ _ _ _ _ _ _ hv =>
  VR_mono' (fun _ hb => ⟨okq_of hb, rfl⟩) (Nat.le_refl _) y (fun o ho => by rw [hm] at ho; cases ho) (h _ _ _ _ _ _ _ hv)

theorem sh_row {o1 u e sz by_ : Nat} {α : Type} {f : α → D} {z : α} {xs : List α} {x : AV} (hx : Sees x (.row o1 u)) (hb : s o1 = .arr u e sz by_ f z xs) : Shows true P [o1] s x (.val (.list sz f z xs)) := by
  intro X t a w β ν v hk hr hv
  obtain ⟨v', k, e1, h1, h2, h3⟩ := hx _ _ _ _ _ _ _ hv
  simp only [List.cons.injEq, and_true] at e1
  subst e1
  have hob : t o1 = .arr u e sz by_ f z xs := by rw [hk o1 (by simp), hb]
  rw [hob] at h1
  simp only [ver, Option.some.injEq] at h1
  have hv' := h3 h1 (by rw [hob]; rfl)
  have ho := hr.obj o1
  rw [hob] at ho
  obtain ⟨cells, g1, g2, g3, g4, g4', g5, g6⟩ := ho
  rw [← hv'] at g1 g2
  refine ⟨_, rfl, row_reads (t := t) (t' := fun _ => .any) g1 rfl (fun b hb' => ⟨hb'.1, hb'.2.1, fun o hl => by cases hl⟩) (fun b hb' => ?_) g5 g4' g6⟩
  have hw := hr.own o1 b (by rw [hob]; rfl) (by rw [g2]; exact hb')
  exact ⟨.inr hw.1, hw.2, fun o hl => by cases hl⟩

theorem sh_ref {o1 u : Nat} {c : AV} {d : D} {K : List Nat} {x : AV} (hx : Sees x (.ref o1 u 0)) (hb : s o1 = .box u c) (hc : ShowsC true P K s c d) : Shows true P (o1 :: K) s x (.ptr d) := by
  intro X t a w β ν v hk hr hv
  obtain ⟨v', k, e1, h1, h2, h3⟩ := hx _ _ _ _ _ _ _ hv
  simp only [List.cons.injEq, and_true] at e1
  subst e1
  have hob : t o1 = .box u c := by rw [hk o1 (by simp), hb]
  rw [hob] at h1
  simp only [ver, Option.some.injEq] at h1
  obtain ⟨b, h4, rfl⟩ := h3 h1 (by rw [hob]; rfl)
  have ho := hr.obj o1
  rw [hob] at ho
  obtain ⟨b', cs, ty, g1, g2, g3, g4⟩ := ho
  rw [h4] at g1
  cases g1
  have hw := hr.own o1 b (by rw [hob]; rfl) h4
  refine ⟨⟨b, 0, none⟩, cs.toList, rfl, rfl, ⟨.inr hw.1, hw.2, fun o hl => by cases hl⟩, g3, ?_, hc X t a w β ν _ (fun k hk' => hk k (List.mem_cons_of_mem _ hk')) hr g4⟩
  intro j hj
  simp only [World.cell?, g2]
  simp at hj
  simp [hj]

theorem sh_refS {o1 u : Nat} {c : AV} {d : D} {K : List Nat} {x : AV} (hx : Sees x (.ref o1 u 0)) (hb : s o1 = .box u c) (hc : ShowsC true P K s c d) : Shows true P (o1 :: K) s x (.ptr (.agg d)) := sh_ref hx hb hc

theorem sh_ref1 {o1 u : Nat} {y : AV} {d : D} {K : List Nat} {x : AV} (hx : Sees x (.ref o1 u 0)) (hb : s o1 = .box u (.ccons y .cnil)) (hd : d.one = true) (hc : Shows true P K s y (.val d)) : Shows true P (o1 :: K) s x (.ptr d) := by
  have hC : ShowsC true P K s (.ccons y .cnil) (.cons d .nil) := by
    rintro X t a w β ν vs hk hr ⟨v, vs', rfl, g1, g2⟩
    obtain ⟨v', e1, g3, g4⟩ := hc X t a w β ν v hk hr g1
    simp only [List.cons.injEq, and_true] at e1
    subst e1
    exact ⟨v, vs', rfl, g3, g4, g2⟩
  intro X t a w β ν v hk hr hv
  obtain ⟨p, cs, h1, h2, h3, h4, h5, v', vs', rfl, h6, h7, h8⟩ := sh_ref hx hb hC X t a w β ν v hk hr hv
  simp only [R] at h8
  subst h8
  exact ⟨p, [v'], h1, h2, h3, h4, h5, (RV_one hd ⟨h6, h7⟩).1⟩

theorem shc_nil {q : Bool} : ShowsC q P [] s .cnil .nil := fun _ _ _ _ _ _ _ _ _ hv => hv

theorem shc_cons {q : Bool} {K K' : List Nat} {x c : AV} {d e : D} (h1 : Shows q P K s x (.val d)) (h2 : ShowsC q P K' s c e) : ShowsC q P (K ++ K') s (.ccons x c) (.cons d e) := by
  rintro X t a w β ν vs hk hr ⟨v, vs', rfl, g1, g2⟩
  obtain ⟨v', e1, g3, g4⟩ := h1 X t a w β ν v (fun k hk' => hk k (List.mem_append_left _ hk')) hr g1
  simp only [List.cons.injEq, and_true] at e1
  subst e1
  exact ⟨v, vs', rfl, g3, g4, h2 X t a w β ν vs' (fun k hk' => hk k (List.mem_append_right _ hk')) hr g2⟩
def ShowsL (q : Bool) (P : Program) (s : St) : AV → List AV → List Nat → Prop
  | .cnil, ys, K => ys = [] ∧ K = []
  | .ccons x c, ys, K => ∃ y ys' K1 K2, ys = y :: ys' ∧ K = K1 ++ K2 ∧ Shows q P K1 s x y ∧ ShowsL q P s c ys' K2
  | _, _, _ => False

theorem ShowsL.args {q : Bool} : ∀ {c : AV} {ys : List AV} {K : List Nat}, ShowsL q P s c ys K → ∀ (X : Cx) (t : St) (a : Act) (w : World) (β : Nat → Option Nat) (ν : Nat → Value) (vs : List Value), (∀ k ∈ K, t k = s k) → RelB P X t a w β ν → VR P (okAt X t β w) w t β ν c vs →
    ArgsR P (okq q X t β w) w ys vs := by
  intro c
  induction c with
  | cnil => rintro ys K ⟨rfl, rfl⟩ X t a w β ν vs _ _ hv; exact hv
  | ccons x c _ ih =>
    rintro ys K ⟨y, ys', K1, K2, rfl, rfl, h1, h2⟩ X t a w β ν vs hk hr ⟨v, vs', rfl, g1, g2⟩
    exact ⟨v, vs', rfl, h1 X t a w β ν v (fun k hk' => hk k (List.mem_append_left _ hk')) hr g1, ih h2 X t a w β ν vs' (fun k hk' => hk k (List.mem_append_right _ hk')) hr g2⟩
  | _ => intro ys K h; exact h.elim

theorem sl_nil {q : Bool} : ShowsL q P s .cnil [] [] := ⟨rfl, rfl⟩
theorem sl_cons {q : Bool} {x c y : AV} {ys : List AV} {K1 K2 : List Nat} (h1 : Shows q P K1 s x y) (h2 : ShowsL q P s c ys K2) : ShowsL q P s (.ccons x c) (y :: ys) (K1 ++ K2) := ⟨y, ys, K1, K2, rfl, rfl, h1, h2⟩
def cAV : D → List AV
  | .cons a b => .val a :: cAV b
  | _ => []

theorem ArgsR_append {ok : Nat → Prop} {w : World} : ∀ {xs ys : List AV} {vs us : List Value}, ArgsR P ok w xs vs → ArgsR P ok w ys us → ArgsR P ok w (xs ++ ys) (vs ++ us)
  | [], _, _, _, h, h' => by simp only [ArgsR] at h; subst h; exact h'
  | x :: xs, _, _, _, h, h' => by obtain ⟨v, vs', rfl, h1, h2⟩ := h; exact ⟨v, vs' ++ _, rfl, h1, ArgsR_append h2 h'⟩

theorem ArgsR_mono {ok ok' : Nat → Prop} {w w' : World} (hk : ∀ b, ok b → ok' b ∧ w'.heap[b]? = w.heap[b]?) (hs : w.heap.size ≤ w'.heap.size) : ∀ {xs : List AV} {vs : List Value}, ArgsR P ok w xs vs → ArgsR P ok' w' xs vs
  | [], _, h => h
  | x :: xs, _, h => by obtain ⟨v, vs', rfl, h1, h2⟩ := h; exact ⟨v, vs', rfl, VR_mono hk hs (Goes.refl _ _ _) _ h1, ArgsR_mono hk hs h2⟩
theorem ArgsR_monoC {ok ok' : Nat → Prop} {w w' : World} (hk : ∀ b, ok b → ok' b ∧ (cellsB w.heap[b]? = true → w'.heap[b]? = w.heap[b]?)) (hs : w.heap.size ≤ w'.heap.size) : ∀ {xs : List AV} {vs : List Value}, ArgsR P ok w xs vs → ArgsR P ok' w' xs vs
  | [], _, h => h
  | x :: xs, _, h => by
    obtain ⟨v, vs', rfl, h1, h2⟩ := h
    exact ⟨v, vs', rfl, VR_monoC' hk hs _ (fun o _ => Goes.refl _ _ _ o) h1, ArgsR_monoC hk hs h2⟩

def D.chain : D → Bool
  | .nil => true
  | .cons _ b => b.chain
  | _ => false

theorem R_chain {ok : Nat → Prop} {w : World} : ∀ {d : D} {vs : List Value}, d.chain = true → R P d ok w vs → ArgsR P ok w (cAV d) vs := by
  intro d
  induction d with
  | nil => intro vs _ h; exact h
  | cons a b _ ih => rintro vs hc ⟨v, vs', rfl, h1, h2, h3⟩; exact ⟨v, vs', rfl, ⟨v, rfl, h1, h2⟩, ih hc h3⟩
  | _ => intro vs hc; cases hc

theorem chain_R {ok : Nat → Prop} {w : World} : ∀ {d : D} {vs : List Value}, d.chain = true → ArgsR P ok w (cAV d) vs → R P d ok w vs := by
  intro d
  induction d with
  | nil => intro vs _ h; exact h
  | cons a b _ ih => rintro vs hc ⟨v, vs', rfl, ⟨v', e, h1, h2⟩, h3⟩; cases e; exact ⟨v, vs', rfl, h1, h2, ih hc h3⟩
  | _ => intro vs hc; cases hc
theorem sh_clo {q : Bool} {F : FuncId} {c x : AV} {ys : List AV} {K : List Nat} {α : Type} {f g : α → D} (hx : Sees x (.clo F c)) (hF : IsFn P F) (hc : ShowsL q P s c ys K) (hch : ∀ x, (f x).chain = true) (hg : ∀ x, (g x).flat = true) (hS : ∀ x, Spec P F (cAV (f x) ++ ys) (g x)) :
    Shows q P K s x (.val (.fn f g)) := by
  intro X t a w β ν v hk hr hv
  obtain ⟨caps, e1, h1⟩ := hx _ _ _ _ _ _ _ hv
  simp only [List.cons.injEq, and_true] at e1
  subst e1
  have hargs := hc.args X t a w β ν _ hk hr h1
  refine ⟨_, rfl, rfl, F, caps, rfl, hF, fun x w' ok' args hkeep hsz hok' hR => ?_⟩
  have hA : ArgsR P (fun b => ok' b ∨ okq q X t β w b) w' (cAV (f x) ++ ys) (args ++ caps.toList) :=
    ArgsR_append (ArgsR_mono (fun b hb => ⟨.inl hb, rfl⟩) (Nat.le_refl _) (R_chain (hch x) hR)) (ArgsR_monoC (fun b hb => ⟨.inr hb, hkeep b hb⟩) hsz hargs)
  have hC := hS x w' _ _ (fun b hb => hb.elim (hok' b) (fun hb => Nat.lt_of_lt_of_le hb.2.1 hsz)) hA
  have e : (args ++ caps.toList).toArray = args.toArray ++ caps := by simp
  rw [e] at hC
  refine hC.mono ?_
  rintro e w'' ⟨v, rfl, hv, hb⟩
  exact ⟨v, rfl, hv.1, R_flat _ (hg x) hv.2, hb⟩

def SArgs (q : Bool) (P : Program) (s : St) : List Operand → List AV → List Nat → Prop
  | [], ys, K => ys = [] ∧ K = []
  | x :: xs, ys, K => ∃ y ys' K1 K2, ys = y :: ys' ∧ K = kx x ++ (K1 ++ K2) ∧ Shows q P K1 s (ev s x) y ∧ SArgs q P s xs ys' K2

theorem sa_nil {q : Bool} : SArgs q P s [] [] [] := ⟨rfl, rfl⟩
theorem sa_cons {q : Bool} {x : Operand} {xs : List Operand} {y : AV} {ys : List AV} {K1 K2 : List Nat} (h1 : Shows q P K1 s (ev s x) y) (h2 : SArgs q P s xs ys K2) : SArgs q P s (x :: xs) (y :: ys) (kx x ++ (K1 ++ K2)) := ⟨y, ys, K1, K2, rfl, rfl, h1, h2⟩

theorem SArgs.args {q : Bool} {X : Cx} {t : St} {a : Act} {w : World} {β : Nat → Option Nat} {ν : Nat → Value} (hr : RelB P X t a w β ν) : ∀ {xs : List Operand} {ys : List AV} {K : List Nat}, (∀ k ∈ K, t k = s k) → SArgs q P s xs ys K → ArgsR P (okq q X t β w) w ys (xs.map a.eval)
  | [], ys, K, _, h => by obtain ⟨rfl, rfl⟩ := h; rfl
  | x :: xs, ys, K, hk, h => by
    obtain ⟨y, ys', K1, K2, rfl, rfl, h1, h2⟩ := h
    refine ⟨a.eval x, xs.map a.eval, rfl, h1 X t a w β ν _ (fun k hk' => hk k (by simp [hk'])) hr (hr.sees (fun k hk' => hk k (by simp [hk'])) Sees.same), SArgs.args hr (fun k hk' => hk k (by simp [hk'])) h2⟩

theorem okq_lt {q : Bool} {X : Cx} {t : St} {β : Nat → Option Nat} {w : World} {b : Nat} (h : okq q X t β w b) : b < w.heap.size := h.2.1
theorem c_callQ {q : Bool} {f : FuncId} {xs : List Operand} {T : Array TypeId} {ys : List AV} {K : List Nat} {r : D} (ho : o.op = .call { callee := .value (.func f), args := xs.toArray, argTypes := T }) (hf : IsFn P f) (hx : SArgs q P s xs ys K) (hq : (!q || r.flat) = true) (hs : Spec P f ys r) :
    CStep P o K s (.val r) := by
  intro X t a w β ν hk hr
  refine ⟨rfl, fun Q K' hK => ?_⟩
  have hargs := SArgs.args hr hk hx
  have hc := hs w (okq q X t β w) _ (fun b hb => okq_lt hb) hargs
  have hrun : (execOp a.eval o).run P w = .ok (.enter f (xs.map a.eval).toArray) w := by
    simp [execOp, ho, resolve, Act.eval, Deferred.ofValue, invoke, run_callFunc hf]
  unfold Oper.wp
  rw [hrun]
  refine hc.mono ?_
  rintro e w' ⟨v, rfl, hv, hbel⟩
  refine hK v w' (hr.below hbel) ⟨v, rfl, hv.1, ?_⟩
  cases q with
  | true => exact R_flat _ (by simpa using hq) hv.2
  | false =>
    refine R_mono _ (fun b hb => ⟨?_, rfl⟩) (Nat.le_refl _) hv.2
    rcases hb with hb | hb
    · exact ⟨hb.1, Nat.lt_of_lt_of_le hb.2.1 hbel.size, hb.2.2⟩
    · exact ⟨.inr (.inl (Nat.le_trans hr.size hb.1)), hb.2, fun o hl h => by have := (hr.own o b hl h).2; omega⟩
theorem c_callV {q : Bool} {x : Operand} {xs : List Operand} {T : Array TypeId} {K : List Nat} {α : Type} {f g : α → D} (a0 : α) (ho : o.op = .call { callee := .value x, args := xs.toArray, argTypes := T }) (hx : Sees (ev s x) (.val (.fn f g))) (hch : (f a0).chain = true) (hy : SArgs q P s xs (cAV (f a0)) K) (hq : (!q || (g a0).flat) = true) :
    CStep P o (kx x ++ K) s (.val (g a0)) := by
  intro X t a w β ν hk hr
  refine ⟨rfl, fun Q K' hK => ?_⟩
  have hargs := SArgs.args hr (kr hk) hy
  obtain ⟨v, e1, hv⟩ := hr.sees (kl hk) hx
  simp only [List.cons.injEq, and_true] at e1
  subst e1
  obtain ⟨hv1, F, caps, hv2, hF, hS⟩ := hv
  have hval : a.eval x = .func (.func F) #[] caps := by
    generalize a.eval x = v at hv1 hv2
    cases v <;> simp_all [Value.cells, vAgg, D.isAgg]
  have hc := hS a0 w (okq q X t β w) (xs.map a.eval) (fun b hb _ => rfl) (Nat.le_refl _) (fun b hb => okq_lt hb) (chain_R hch hargs)
  have hrun : (execOp a.eval o).run P w = .ok (.enter F ((xs.map a.eval).toArray ++ caps)) w := by
    simp [execOp, ho, resolve, hval, Deferred.ofValue, invoke, run_callFunc hF]
  unfold Oper.wp
  rw [hrun]
  refine hc.mono ?_
  rintro e w' ⟨v, rfl, hv1, hv, hbel⟩
  refine hK v w' (hr.below hbel) ⟨v, rfl, hv1, ?_⟩
  cases q with
  | true => exact R_flat _ (by simpa using hq) hv
  | false =>
    refine R_mono _ (fun b hb => ⟨?_, rfl⟩) (Nat.le_refl _) hv
    rcases hb with hb | hb
    · exact ⟨hb.1, Nat.lt_of_lt_of_le hb.2.1 hbel.size, hb.2.2⟩
    · exact ⟨.inr (.inl (Nat.le_trans hr.size hb.1)), hb.2, fun o hl h => by have := (hr.own o b hl h).2; omega⟩
def capC (s : St) : List Operand → AV
  | [] => .cnil
  | x :: l => .ccons (ev s x) (capC s l)

theorem cap_ok {X : Cx} {t : St} {a : Act} {w : World} {β : Nat → Option Nat} {ν : Nat → Value} (hr : RelB P X t a w β ν) : ∀ {l : List Operand}, (∀ k ∈ kxl l, t k = s k) → VR P (okAt X t β w) w t β ν (capC s l) (l.map a.eval)
  | [], _ => rfl
  | x :: l, hk => ⟨a.eval x, l.map a.eval, rfl, hr.sees (fun k hk' => hk k (by simp [kxl, hk'])) Sees.same, cap_ok hr (fun k hk' => hk k (by simp [kxl, hk']))⟩

theorem p_makeFunc {F : FuncId} {l : List Operand} (ho : o.op = .makeFunc (.func F) #[] l.toArray) : PStep P o (kxl l) s (.clo F (capC s l)) := by
  intro X t a w β ν hk hr
  refine ⟨rfl, .func (.func F) #[] (l.map a.eval).toArray, by simp [execOp, ho, Instr.makeFunc], _, rfl, ?_⟩
  simpa using cap_ok hr hk

end
end Go.Um

/- Arithmetic: quotients, shifts, bits, conversions, max and min. No condition. -/

namespace Go.Um
open Go Go.RowKit

def IsInt (P : Program) (T : TypeId) (k : IntKind) : Prop := P.underlying T = some (.int k)

section
variable {P : Program} {s : St} {o : Oper} {x y : Operand} {T T' : TypeId} {k k' : IntKind} {m n : Int}

theorem p_max {A : Array TypeId} (ho : o.op = .call { callee := .builtin .max, args := #[x, y], argTypes := A }) (hx : Sees (ev s x) (.val (.int k m))) (hy : Sees (ev s y) (.val (.int k n))) : PStep P o (kx x ++ kx y) s (.val (.int k (max m n))) := by
  intro X t a w β ν hk hr
  refine ⟨rfl, .int k (max m n), ?_, mk_int _ _ _⟩
  have e : (if n > m then n else m) = max m n := by simp only [Int.max_def]; split <;> split <;> omega
  simp [execOp, ho, resolve, invoke, builtin, Builtin.max_, Builtin.max2, hr.int (kl hk) hx, hr.int (kr hk) hy]
  exact e

end
end Go.Um

/- Calls that make a row of the caller's own; 'make'; nil slices. No condition. -/


namespace Go.Um
open Go Go.RowKit

section
variable {P : Program} {n : Nat} {ops : Array Oper} {s : St} {o : Oper}
theorem row_reads' {ok ok' : Nat → Prop} {w : World} {sz e m : Nat} {v : Value} {cells : List Value} {α : Type} {f : α → D} {z : α} {xs : List α} (hown : w.ownsRow 0 e sz v m cells) (hm : m = xs.length) (hok : ∀ b, ok b → ok' b) (hb : ∀ b, v.ownBlock = some b → ok' b)
    (h1 : ∀ c ∈ cells, c.oneCell' = true) (hl : xs.length ≤ 140737488355328) (hR : ∀ i (h : i < xs.length), R P (f xs[i]) ok w ((cells.drop (i * sz)).take sz)) : RV P (.list sz f z xs) ok' w v := by
  subst hm
  rcases hown.2 with ⟨rfl, h0⟩ | ⟨g, cap, cur, rfl, _, hg, hnc, hcm, hcs, htake⟩
  · have : xs = [] := List.eq_nil_of_length_eq_zero h0
    subst this
    exact ⟨rfl, none, 0, rfl, Nat.le_refl _, Nat.zero_le _, Nat.zero_le _, fun i hi => by simp at hi⟩
  · refine ⟨rfl, some ⟨g, 0, none⟩, cap, rfl, hnc, hcm, hl, fun i hi => ?_⟩
    have hlen : ((cells.drop (i * sz)).take sz).length = sz := by
      have : (i + 1) * sz ≤ xs.length * sz := Nat.mul_le_mul_right _ hi
      rw [Nat.add_mul, Nat.one_mul] at this
      simp [hown.1]
      omega
    refine ⟨⟨g, 0, none⟩, (cells.drop (i * sz)).take sz, rfl, rfl, hb g rfl, hlen, fun c hc => h1 c (List.mem_of_mem_drop (List.mem_of_mem_take hc)), ?_, R_mono _ (fun b hb' => ⟨hok b hb', rfl⟩) (Nat.le_refl _) (hR i hi)⟩
    intro j hj
    have hc := hown.cells (g := g) rfl (i * sz + j) (((cells.drop (i * sz)).take sz)[j]) (by
      rw [← List.getElem?_drop, ← List.getElem?_eq_getElem, List.getElem?_take, if_pos (by rw [hlen] at hj; exact hj)])
    rw [Addr.add_none rfl] at hc
    simpa using hc
def NewRow (P : Program) (n0 : Nat) (ok : Nat → Prop) (e sz by_ : Nat) {α : Type} (f : α → D) (xs : List α) (w : World) (v : Value) : Prop :=
  ∃ cells, w.ownsRow 0 e sz v xs.length cells ∧ (∀ b, v.ownBlock = some b → n0 ≤ b) ∧ 0 < sz ∧ xs.length * by_ ≤ 140737488355328 ∧ xs.length ≤ 140737488355328 ∧ (∀ c ∈ cells, c.oneCell' = true) ∧
    ∀ i (h : i < xs.length), R P (f xs[i]) (fun b => (ok b ∨ (n0 ≤ b ∧ b < w.heap.size)) ∧ v.ownBlock ≠ some b) w ((cells.drop (i * sz)).take sz)
def SpecN (P : Program) (f : FuncId) (args : List AV) (e sz by_ : Nat) {α : Type} (g : α → D) (xs : List α) : Prop :=
  ∀ (w : World) (ok : Nat → Prop) (vs : List Value), (∀ b, ok b → b < w.heap.size) → ArgsR P ok w args vs → Calls P f vs.toArray w (fun en w' => ∃ v, en = .returned v ∧ NewRow P w.heap.size ok e sz by_ g xs w' v ∧ Belw w.heap.size w w')

theorem SpecN.spec {f : FuncId} {args : List AV} {e sz by_ : Nat} {α : Type} {g : α → D} {xs : List α} (h : SpecN P f args e sz by_ g xs) (z : α) : Spec P f args (.list sz g z xs) := by
  intro w ok vs hok hargs
  refine (h w ok vs hok hargs).mono ?_
  rintro en w' ⟨v, rfl, ⟨cells, h1, h2, h3, h4, h5, h6, h7⟩, hb⟩
  exact ⟨v, rfl, row_reads' h1 rfl (fun b hb' => hb'.1) (fun b hb' => .inr ⟨h2 b hb', (h1.lt b hb').2⟩) h6 h5 h7, hb⟩
theorem r_callN {q : Bool} {f : FuncId} {xs : List Operand} {T : Array TypeId} {ys : List AV} {K : List Nat} {d ob e sz by_ : Nat} {α : Type} {g : α → D} (z : α) {l : List α} (ho : o.op = .call { callee := .value (.func f), args := xs.toArray, argTypes := T }) (hf : IsFn P f) (hx : SArgs q P s xs ys K)
    (hq : q = false ∨ ∀ x, (g x).flat = true) (hs : SpecN P f ys e sz by_ g l) (hd : o.dst = some d) (hg : o.guard = none) (hob : Nat.blt 9999 ob = true) (hn : Nat.blt d n = true) (h4 : Nat.blt d 10000 = true) :
    LStep P n ops o (ob :: K, [d, ob]) s (upd (upd s ob (.arr (newVer (s ob)) e sz by_ g z l)) d (.row ob (newVer (s ob)))) := by
  refine ⟨off_two, fun X t a w hX hk hr Q => ?_⟩
  obtain ⟨β, ν, hr⟩ := hr
  have hob' := blt_lt hob
  have hd4 := blt_lt h4
  have hargs := SArgs.args hr (fun k hk' => hk k (List.mem_cons_of_mem _ hk')) hx
  have hc := hs w (okq q X t β w) _ (fun b hb => okq_lt hb) hargs
  have hrun : (execOp a.eval o).run P w = .ok (.enter f (xs.map a.eval).toArray) w := by
    simp [execOp, ho, resolve, Act.eval, Deferred.ofValue, invoke, run_callFunc hf]
  unfold opWp
  rw [if_pos (by simp [Region.wanted, hg])]
  left
  unfold Oper.wp
  rw [hrun]
  refine hc.mono ?_
  rintro en w' ⟨v, rfl, ⟨cells, g1, g2, g3, g4, g5, g6, g7⟩, hbel⟩
  have hto : t ob = s ob := hk ob (by simp)
  show Rel P X (ovr t [d, ob] _) (a.put o.dst v) w'
  rw [ovr_two (by omega), hd, ← hto]
  refine ⟨updF β ob v.ownBlock, updF ν ob v, hr.newObj (Kill.refl t) (by omega) (by rw [hX]; exact blt_lt hn) hd4 hbel.os hbel.tape ⟨hbel.output, hbel.drawn⟩ hbel.size (fun b hb => .inl (hbel.block b hb)) (fun b hb => .inl ⟨g2 b hb, (g1.lt b hb).2⟩) rfl rfl ?_⟩
  intro hok hgo
  refine ⟨⟨cells, by rw [updF_same]; exact g1, by rw [updF_same, updF_same], g3, g4, g5, g6, fun i hi => ?_⟩, _, _, rfl, by rw [upd_ne _ _ (by omega), upd_same]; rfl, Nat.le_refl _, fun _ _ => (updF_same ..).symm⟩
  rcases hq with rfl | hq
  · refine R_mono _ (fun b hb => ⟨?_, rfl⟩) (Nat.le_refl _) (g7 i hi)
    obtain ⟨hb1 | hb1, hb2⟩ := hb
    · exact (hok b hb1).1
    · refine ⟨.inr (.inl (Nat.le_trans hr.size hb1.1)), hb1.2, fun o' hl h => ?_⟩
      by_cases eo : o' = ob
      · subst eo; rw [updF_same] at h; exact hb2 h
      · rw [updF_ne _ _ eo] at h
        by_cases ed : o' = d
        · subst ed; rw [upd_same] at hl; cases hl
        · rw [upd_ne _ _ ed, upd_ne _ _ eo] at hl
          have := (hr.own o' b hl h).2
          omega
  · exact R_flat _ (hq _) (g7 i hi)
theorem c_callS {q : Bool} {f : FuncId} {xs : List Operand} {T : Array TypeId} {ys : List AV} {K : List Nat} {r : D} (ho : o.op = .call { callee := .value (.func f), args := xs.toArray, argTypes := T }) (hf : IsFn P f) (hs : Spec P f ys r) (hx : SArgs q P s xs ys K) (hq : (!q || r.flat) = true) : CStep P o K s (.val r) := c_callQ ho hf hx hq hs

theorem r_callS {q : Bool} {f : FuncId} {xs : List Operand} {T : Array TypeId} {ys : List AV} {K : List Nat} {d ob e sz by_ : Nat} {α : Type} {g : α → D} (z : α) {l : List α} (ho : o.op = .call { callee := .value (.func f), args := xs.toArray, argTypes := T }) (hf : IsFn P f) (hs : SpecN P f ys e sz by_ g l) (hx : SArgs q P s xs ys K)
    (hq : q = false ∨ ∀ x, (g x).flat = true) (hd : o.dst = some d) (hg : o.guard = none) (hob : Nat.blt 9999 ob = true) (hn : Nat.blt d n = true) (h4 : Nat.blt d 10000 = true) :
    LStep P n ops o (ob :: K, [d, ob]) s (upd (upd s ob (.arr (newVer (s ob)) e sz by_ g z l)) d (.row ob (newVer (s ob)))) := r_callN z ho hf hx hq hs hd hg hob hn h4
theorem c_callC {q : Bool} {x : Operand} {F : FuncId} {c : AV} {xs : List Operand} {T : Array TypeId} {ys us : List AV} {K K' : List Nat} {r : D} (ho : o.op = .call { callee := .value x, args := xs.toArray, argTypes := T }) (hf : IsFn P F) (hs : Spec P F (ys ++ us) r) (hx : Sees (ev s x) (.clo F c)) (hc : ShowsL q P s c us K') (hy : SArgs q P s xs ys K) (hq : (!q || r.flat) = true) :
    CStep P o (kx x ++ (K ++ K')) s (.val r) := by
  intro X t a w β ν hk hr
  refine ⟨rfl, fun Q K1 hK => ?_⟩
  have hargs := SArgs.args hr (kl (kr hk)) hy
  obtain ⟨caps, e1, hcaps⟩ := hr.sees (kl hk) hx
  simp only [List.cons.injEq, and_true] at e1
  have hA := ArgsR_append hargs (hc.args X t a w β ν _ (kr (kr hk)) hr hcaps)
  have hC := hs w (okq q X t β w) _ (fun b hb => okq_lt hb) hA
  have hrun : (execOp a.eval o).run P w = .ok (.enter F (xs.map a.eval ++ caps.toList).toArray) w := by
    simp [execOp, ho, resolve, e1, Deferred.ofValue, invoke, run_callFunc hf]
  unfold Oper.wp
  rw [hrun]
  refine hC.mono ?_
  rintro e w' ⟨v, rfl, hv, hbel⟩
  refine hK v w' (hr.below hbel) ⟨v, rfl, hv.1, ?_⟩
  cases q with
  | true => exact R_flat _ (by simpa using hq) hv.2
  | false =>
    refine R_mono _ (fun b hb => ⟨?_, rfl⟩) (Nat.le_refl _) hv.2
    rcases hb with hb | hb
    · exact ⟨hb.1, Nat.lt_of_lt_of_le hb.2.1 hbel.size, hb.2.2⟩
    · exact ⟨.inr (.inl (Nat.le_trans hr.size hb.1)), hb.2, fun o hl h => by have := (hr.own o b hl h).2; omega⟩
theorem res_row {t o1 u e sz by_ : Nat} {α : Type} {f : α → D} {z : α} {xs : List α} (ht : Nat.blt t 10000 = true) (h : s t = .row o1 u) (hb : s o1 = .arr u e sz by_ f z xs) : ResOne P s (.tmp t) (.list sz f z xs) := by
  intro X a w β ν hbor hr
  have hx : ev s (.tmp t) = .row o1 u := by simp only [ev, ht, cond_true]; exact h
  obtain ⟨cells, q1, q2, q2', q3, q4, q4', q5, q6⟩ := hr.atRow (s := s) (x := .tmp t) (fun _ _ => rfl) (Sees.of hx) hb
  refine ⟨a.eval (.tmp t), rfl, row_reads' q1 rfl (fun b hb' => (ok_final hbor b hb').1) (fun b hb' => ?_) q5 q4' q6⟩
  have hw := hr.own o1 b (by rw [hb]; rfl) (by rw [q2]; exact hb')
  exact ⟨hw.1.elim .inr (fun h => absurd h (hbor b)), hw.2⟩

def ResN (P : Program) (fn : Func) (s : St) (e sz by_ : Nat) {α : Type} (f : α → D) (xs : List α) : Prop :=
  ∀ (X : Cx) (a : Act) (w : World) (β : Nat → Option Nat) (ν : Nat → Value), (∀ b, ¬ X.bor b) → RelB P X s a w β ν →
    ∃ v, (results fn a.tmps).run P w = .ok v w ∧ NewRow P X.w0.heap.size X.ok0 e sz by_ f xs w v

def EndsN (P : Program) (fn : Func) (e sz by_ : Nat) {α : Type} (f : α → D) (xs : List α) (en : Exit) (s : St) : Prop := (en = .ret ∨ en = .normal) ∧ ResN P fn s e sz by_ f xs

theorem resN_row {fn : Func} {t o1 u e sz by_ : Nat} {α : Type} {f : α → D} {z : α} {xs : List α} (hf : fn.results = #[.tmp t]) (ht : Nat.blt t 10000 = true) (h : s t = .row o1 u) (hb : s o1 = .arr u e sz by_ f z xs) : ResN P fn s e sz by_ f xs := by
  intro X a w β ν hbor hr
  have hx : ev s (.tmp t) = .row o1 u := by simp only [ev, ht, cond_true]; exact h
  obtain ⟨cells, q1, q2, q2', q3, q4, q4', q5, q6⟩ := hr.atRow (s := s) (x := .tmp t) (fun _ _ => rfl) (Sees.of hx) hb
  refine ⟨a.eval (.tmp t), ?_, cells, q1, fun b hb' => ?_, q3, q4, q4', q5, fun i hi => R_mono _ (fun b hb' => ⟨⟨?_, ?_⟩, rfl⟩) (Nat.le_refl _) (q6 i hi)⟩
  · have h1 : (runRes a.tmps (.tmp t)).run P w = .ok (a.eval (.tmp t)) w := rfl
    rw [results_eq, hf]
    simp [h1]
  · exact ((hr.own o1 b (by rw [hb]; rfl) (by rw [q2]; exact hb')).1).elim id (fun h => absurd h (hbor b))
  · rcases hb'.1 with h' | h' | h'
    · exact .inl h'
    · exact .inr ⟨h', hb'.2.1⟩
    · exact absurd h' (hbor b)
  · rw [← q2]; exact hb'.2.2 o1 (by rw [hb]; rfl)

theorem resN_emp {fn : Func} {t e sz by_ : Nat} {α : Type} {f : α → D} (hf : fn.results = #[.tmp t]) (ht : Nat.blt t 10000 = true) (h : s t = .emp) (h0 : Nat.blt 0 sz = true) : ResN P fn s e sz by_ f [] := by
  intro X a w β ν hbor hr
  have hv := hr.slot t (blt_lt ht)
  rw [h] at hv
  simp only [VR, List.cons.injEq, and_true] at hv
  refine ⟨.slice none 0 0, ?_, [], World.ownsRow_nil w 0 e sz, (fun b hb => nomatch hb), blt_lt h0, by simp, by simp, by simp, fun i hi => absurd hi (Nat.not_lt_zero i)⟩
  have h1 : (runRes a.tmps (.tmp t)).run P w = .ok (.slice none 0 0) w := by rw [← hv]; rfl
  rw [results_eq, hf]
  simp [h1]

theorem resN_eq {fn : Func} {e sz by_ : Nat} {α : Type} {f : α → D} {xs ys : List α} (h : ResN P fn s e sz by_ f xs) (e' : xs = ys) : ResN P fn s e sz by_ f ys := e' ▸ h
theorem r_make {x : Operand} {T e sz by_ d ob m : Nat} {k : IntKind} {zv : Value} {α : Type} {f : α → D} {z : α} (ho : o.op = .makeSlice T x x) (hT : IsSlice P T e) (hs : Size P e sz) (hby : Bytes P e by_) (hz : Zero P e zv) (hzs : zv.cells.size = sz) (h0 : Nat.blt 0 sz = true) (hz1 : zv.cells.toList.all (·.oneCell') = true)
    (hR : ∀ ok w, R P (f z) ok w zv.cells.toList) (hx : Sees (ev s x) (.val (.int k (m : Int)))) (hb : m * by_ ≤ 140737488355328) (hl : m ≤ 140737488355328) (hd : o.dst = some d) (hg : o.guard = none) (hob : Nat.blt 9999 ob = true) (hn : Nat.blt d n = true) (h4 : Nat.blt d 10000 = true) :
    LStep P n ops o (ob :: kx x, [d, ob]) s (upd (upd s ob (.arr (newVer (s ob)) e sz by_ f z (List.replicate m z))) d (.row ob (newVer (s ob)))) := by
  refine ⟨off_two, fun X t a w hX hk hr Q => ?_⟩
  obtain ⟨β, ν, hr⟩ := hr
  have hob' := blt_lt hob
  have hd4 := blt_lt h4
  have h0' := blt_lt h0
  have hv := hr.int (fun k hk' => hk k (List.mem_cons_of_mem _ hk')) hx
  unfold Size at hs
  unfold Bytes at hby
  unfold Zero at hz
  obtain ⟨inf, i1, i2⟩ := Option.map_eq_some_iff.1 hs
  rw [i1] at hby hz
  simp only [Option.map_some, Option.some.injEq, Option.bind_some] at hby hz
  obtain ⟨w', hrun, r1, r2⟩ := run_make_full (P := P) w w.heap.size T e inf zv sz hT i1 hz i2 k k m (by rw [hby, Nat.mul_comm]; omega) (by simp only [maxLen]; omega) (Nat.le_refl _)
  have hrun' : (execOp a.eval o).run P w = .ok (.value (.slice (some ⟨w.heap.size, 0, none⟩) m m)) w' := by
    simp [execOp, ho, hv, hrun]
  refine opWp_run (by simp [Region.wanted, hg]) hrun' ?_
  rw [ovr_two (by omega), hd]
  have hto : t ob = s ob := hk ob (by simp)
  rw [← hto]
  have hcell : ∀ j (h : j < (madeCells zv.cells (m * sz)).toList.length), (madeCells zv.cells (m * sz)).toList[j] = zv.cells.toList[j % sz]'(by simp [hzs]; exact Nat.mod_lt _ h0') := by
    intro j hj
    have hj2 : j % sz < zv.cells.size := by rw [hzs]; exact Nat.mod_lt _ h0'
    simp [madeCells, hzs, getElem!_pos zv.cells (j % sz) hj2]
  have hown : w'.ownsRow 0 e sz (.slice (some ⟨w.heap.size, 0, none⟩) m m) (List.replicate m z).length (madeCells zv.cells (m * sz)).toList := by
    rw [List.length_replicate]
    refine ⟨r1.1, ?_⟩
    rcases r1.2 with ⟨h, _⟩ | ⟨g, cap, cur, c1, c2, c3⟩
    · cases h
    · exact .inr ⟨g, cap, cur, c1, Nat.zero_le _, c3⟩
  refine hr.grown (row := none) (cells := (madeCells zv.cells (m * sz)).toList) (Kill.refl t) (by omega) (by rw [hX]; exact blt_lt hn) hd4 r2 (sem_drawn _ hrun') (fun b hb => by cases hb) (fun b hb => ?_) hown h0' (by simpa using hb) (by simpa using hl) ?_ ?_
  · simp only [Value.ownBlock, Option.some.injEq] at hb
    right; omega
  · intro c hc
    obtain ⟨j, hj, rfl⟩ := List.getElem_of_mem hc
    rw [hcell j hj]
    exact List.all_eq_true.1 hz1 _ (List.getElem_mem _)
  · intro i hi
    simp only [List.length_replicate] at hi
    rw [List.getElem_replicate]
    have : ((madeCells zv.cells (m * sz)).toList.drop (i * sz)).take sz = zv.cells.toList := by
      have hbound : (i + 1) * sz ≤ m * sz := Nat.mul_le_mul_right _ hi
      rw [Nat.add_mul, Nat.one_mul] at hbound
      apply List.ext_getElem
      · simp [size_madeCells, hzs]; omega
      · intro j h1 h2
        rw [List.getElem_take, List.getElem_drop, hcell]
        congr 1
        simp [hzs] at h2
        rw [Nat.add_comm, Nat.add_mul_mod_self_right, Nat.mod_eq_of_lt h2]
    rw [this]
    exact hR _ _

theorem Sees.sl {x : AV} {b : Bool} {d : D} (e : x = .val (.sl b d)) : Sees x (.val d) := by
  subst e
  intro P ok w s β ν v h
  obtain ⟨u, e, h1, h2, h3, h4⟩ := h
  exact ⟨u, e, by rw [h1, h3]; rfl, h2⟩
theorem p_eqlNil {x y : Operand} {T T' : TypeId} {b : Bool} {d : D} (ho : o.op = .binOp .eql T x y T') {e : TypeId} (hT : IsSlice P T e) (hy : ev s y = .emp) (hx : ev s x = .val (.sl b d)) : PStep P o (kx x ++ kx y) s (.val (.bool b)) := by
  intro X t a w β ν hk hr
  obtain ⟨v, e1, hv1, hv2, hv3, a', l, c, e2, h3⟩ := hr.sees (kl hk) (Sees.of hx)
  have hv' := hr.sees (kr hk) (Sees.of hy)
  simp only [VR, List.cons.injEq, and_true] at e1 hv'
  subst e1
  have hval : a.eval x = .slice a' l c := by
    generalize a.eval x = v at hv1 e2
    cases v <;> simp_all [Value.cells, vAgg, D.isAgg]
  refine ⟨rfl, .bool b, ?_, mk_bool _ _⟩
  subst h3
  unfold IsSlice at hT
  have he : (Op.equalIn 10000 T (.slice a' l c) (.slice none 0 0)).run P w = .ok a'.isNone w := by
    unfold Op.equalIn
    cases a' <;> simp [run_underlying' hT]
  have e3 : binOp .eql T (.slice a' l c) (.slice none 0 0) = (do pure (.bool (← Op.equal T (.slice a' l c) (.slice none 0 0)))) := rfl
  simp [execOp, ho, hval, hv', eqGuard, e3, Op.equal, Op.maxDepth, he]

end
end Go.Um

/- Rows in variables: ghost steps. No condition. -/

namespace Go.Um
open Go Go.RowKit

section
variable {P : Program} {n : Nat} {ops : Array Oper} {s : St} {o : Oper}
theorem g_freezeB {ob ub off o1 u e sz by_ : Nat} {c : AV} {α : Type} {f : α → D} {z : α} {xs : List α} (ho4 : Nat.blt 9999 o1 = true) (hb4 : Nat.blt 9999 ob = true) (hne : Nat.beq ob o1 = false) (hb : s ob = .box ub c) (hi : Nat.blt off c.len = true) (hx : c.nth off = .row o1 u) (hb1 : s o1 = .arr u e sz by_ f z xs) :
    GLe P ([o1, ob], [ob, o1]) s (upd (upd s o1 (.dead u)) ob (.box ub (c.set off (.val (.list sz f z xs))))) := by
  have hne' : ob ≠ o1 := by rintro rfl; simp at hne
  refine ⟨off_two, fun X t a w hk hr => ?_⟩
  obtain ⟨β, ν, hr⟩ := hr
  have hb4' := blt_lt hb4
  have ho' := blt_lt ho4
  rw [ovr_two hne']
  have hto : t o1 = .arr u e sz by_ f z xs := by rw [hk o1 (by simp), hb1]
  have htb : t ob = .box ub c := by rw [hk ob (by simp), hb]
  have hlo : live (t o1) = true := by rw [hto]; rfl
  have hlb : live (t ob) = true := by rw [htb]; rfl
  have hs : ∀ j, j ≠ o1 → j ≠ ob → upd (upd t o1 (.dead u)) ob (.box ub (c.set off (.val (.list sz f z xs)))) j = t j := fun j h1 h2 => by rw [upd_ne _ _ h2, upd_ne _ _ h1]
  have hso : upd (upd t o1 (.dead u)) ob (.box ub (c.set off (.val (.list sz f z xs)))) o1 = .dead u := by rw [upd_ne _ _ (Ne.symm hne'), upd_same]
  have hsb : upd (upd t o1 (.dead u)) ob (.box ub (c.set off (.val (.list sz f z xs)))) ob = .box ub (c.set off (.val (.list sz f z xs))) := upd_same ..
  have hlv : ∀ j, live (upd (upd t o1 (.dead u)) ob (.box ub (c.set off (.val (.list sz f z xs)))) j) = true → j ≠ o1 ∧ live (t j) = true := by
    intro j hj
    have h1 : j ≠ o1 := by rintro rfl; rw [hso] at hj; cases hj
    refine ⟨h1, ?_⟩
    by_cases h2 : j = ob
    · subst h2; exact hlb
    · rw [hs j h1 h2] at hj; exact hj
  have hgoes : Goes t (upd (upd t o1 (.dead u)) ob (.box ub (c.set off (.val (.list sz f z xs))))) β β ν ν := by
    intro j m hm
    by_cases e1 : j = o1
    · subst e1
      rw [hto] at hm
      simp only [ver, Option.some.injEq] at hm
      exact ⟨u, by rw [hso]; rfl, by omega, fun _ hl => by rw [hso] at hl; cases hl⟩
    · by_cases e2 : j = ob
      · subst e2
        rw [htb] at hm
        exact ⟨m, by rw [hsb]; exact hm, Nat.le_refl _, fun _ _ => ⟨hlb, rfl, rfl⟩⟩
      · exact ⟨m, by rw [hs j e1 e2]; exact hm, Nat.le_refl _, fun _ hl => ⟨(hlv j hl).2, rfl, rfl⟩⟩
  have hok : ∀ b, okAt X t β w b → okAt X (upd (upd t o1 (.dead u)) ob (.box ub (c.set off (.val (.list sz f z xs))))) β w b ∧ w.heap[b]? = w.heap[b]? :=
    fun b hb' => ⟨⟨hb'.1, hb'.2.1, fun j hl => hb'.2.2 j (hlv j hl).2⟩, rfl⟩
  have hob := hr.obj ob
  rw [htb] at hob
  obtain ⟨b0, cs, ty, g1, g2, g3, g4⟩ := hob
  have hoo := hr.obj o1
  rw [hto] at hoo
  obtain ⟨cells, q1, q2, q3, q4, q4', q5, q6⟩ := hoo
  obtain ⟨v, hv1, hv2⟩ := VR_nth c off g4 (blt_lt hi)
  rw [hx] at hv2
  obtain ⟨v', k, e1, h1, h2, h3⟩ := hv2
  simp only [List.cons.injEq, and_true] at e1
  subst e1
  rw [hto] at h1
  simp only [ver, Option.some.injEq] at h1
  have hvν := h3 h1 hlo
  rw [← hvν] at q1 q2
  refine ⟨β, ν, hr.move rfl rfl ⟨rfl, Nat.le_refl _⟩ (Nat.le_refl _) (fun _ _ _ => rfl) hok hgoes ?_ ?_ ?_ ?_ ?_ rfl rfl (fun hv => .inl (hs _ (by intro e; rw [e, hso] at hv; cases hv) (by intro e; rw [e, hsb] at hv; cases hv)))⟩
  · intro j b hl hb'; exact .inl ⟨(hlv j hl).2, hb'⟩
  · intro j j' b hl hl' h1 h2; exact hr.inj j j' b (hlv j hl).2 (hlv j' hl').2 h1 h2
  · intro j hl
    by_cases e2 : j = ob
    · subst e2
      right
      rw [hsb]
      refine ⟨b0, cs, ty, g1, g2, g3, ?_⟩
      have hread : VR P (okAt X (upd (upd t o1 (.dead u)) j (.box ub (c.set off (.val (.list sz f z xs))))) β w) w (upd (upd t o1 (.dead u)) j (.box ub (c.set off (.val (.list sz f z xs))))) β ν (.val (.list sz f z xs)) [v] := by
        refine ⟨v, rfl, row_reads (t := t) q1 rfl (fun b hb' => (hok b hb').1) (fun b hb' => ?_) q5 q4' q6⟩
        have hβ : β o1 = some b := by rw [q2]; exact hb'
        have hw := hr.own o1 b hlo hβ
        refine ⟨.inr hw.1, hw.2, fun j' hl' hj' => ?_⟩
        exact (hlv j' hl').1 (hr.inj j' o1 b (hlv j' hl').2 hlo hj' hβ)
      have := VR_set c off (.val (.list sz f z xs)) v (VR_mono hok (Nat.le_refl _) hgoes _ g4) (blt_lt hi) hread
      have e3 : cs.toList.set off v = cs.toList := by
        apply List.ext_getElem?
        intro i
        rw [List.getElem?_set]
        split
        · rename_i e; subst e; split
          · exact hv1.symm
          · rename_i hlt; rw [List.getElem?_eq_none (by omega)]
        · rfl
      rw [e3] at this
      exact this
    · exact .inl ⟨hs j (hlv j hl).1 e2, rfl, rfl, fun _ _ => rfl⟩
  · intro j hj; exact .inl ⟨hs j (by omega) (by omega), rfl⟩
  · intro j hj; rw [hs j (by omega) (by omega)]; exact hr.keys j hj
theorem g_adoptB {ob ub off o1 : Nat} {c : AV} (e sz by_ : Nat) {α : Type} (f : α → D) (z : α) (h0 : Nat.blt 0 sz = true) (ho4 : Nat.blt 9999 o1 = true) (hb4 : Nat.blt 9999 ob = true) (hne : Nat.beq ob o1 = false) (hb : s ob = .box ub c) (hi : Nat.blt off c.len = true) (hx : c.nth off = .emp) :
    GLe P ([o1, ob], [ob, o1]) s (upd (upd s o1 (.arr (newVer (s o1)) e sz by_ f z [])) ob (.box ub (c.set off (.row o1 (newVer (s o1)))))) := by
  have hne' : ob ≠ o1 := by rintro rfl; simp at hne
  refine ⟨off_two, fun X t a w hk hr => ?_⟩
  obtain ⟨β, ν, hr⟩ := hr
  have hb4' := blt_lt hb4
  have ho' := blt_lt ho4
  rw [ovr_two hne']
  have hto : t o1 = s o1 := hk o1 (by simp)
  rw [← hto]
  have htb : t ob = .box ub c := by rw [hk ob (by simp), hb]
  have hlb : live (t ob) = true := by rw [htb]; rfl
  generalize hT : upd (upd t o1 (.arr (newVer (t o1)) e sz by_ f z [])) ob (.box ub (c.set off (.row o1 (newVer (t o1))))) = T
  have hs : ∀ j, j ≠ o1 → j ≠ ob → T j = t j := fun j h1 h2 => by rw [← hT, upd_ne _ _ h2, upd_ne _ _ h1]
  have hso : T o1 = .arr (newVer (t o1)) e sz by_ f z [] := by rw [← hT, upd_ne _ _ (Ne.symm hne'), upd_same]
  have hsb : T ob = .box ub (c.set off (.row o1 (newVer (t o1)))) := by rw [← hT, upd_same]
  have hlv : ∀ j, live (T j) = true → j ≠ o1 → live (t j) = true := by
    intro j hj h1
    by_cases h2 : j = ob
    · subst h2; exact hlb
    · rw [hs j h1 h2] at hj; exact hj
  have hβn : ∀ j, j ≠ o1 → updF β o1 none j = β j ∧ updF ν o1 (.slice none 0 0) j = ν j := fun j h => ⟨updF_ne _ _ h, updF_ne _ _ h⟩
  have hgoes : Goes t T β (updF β o1 none) ν (updF ν o1 (.slice none 0 0)) := by
    intro j m hm
    by_cases e1 : j = o1
    · subst e1
      refine ⟨newVer (t j), by rw [hso]; rfl, Nat.le_of_lt (newVer_gt hm), fun h => ?_⟩
      have := newVer_gt hm
      omega
    · obtain ⟨n1, n2⟩ := hβn j e1
      by_cases e2 : j = ob
      · subst e2
        rw [htb] at hm
        exact ⟨m, by rw [hsb]; exact hm, Nat.le_refl _, fun _ _ => ⟨hlb, n1, n2⟩⟩
      · exact ⟨m, by rw [hs j e1 e2]; exact hm, Nat.le_refl _, fun _ hl => ⟨hlv j hl e1, n1, n2⟩⟩
  have hok : ∀ b, okAt X t β w b → okAt X T (updF β o1 none) w b ∧ w.heap[b]? = w.heap[b]? := by
    intro b hb'
    refine ⟨⟨hb'.1, hb'.2.1, fun j hl h => ?_⟩, rfl⟩
    by_cases e1 : j = o1
    · subst e1; rw [updF_same] at h; cases h
    · rw [(hβn j e1).1] at h
      exact hb'.2.2 j (hlv j hl e1) h
  have hob := hr.obj ob
  rw [htb] at hob
  obtain ⟨b0, cs, ty, g1, g2, g3, g4⟩ := hob
  obtain ⟨v, hv1, hv2⟩ := VR_nth c off g4 (blt_lt hi)
  rw [hx] at hv2
  simp only [VR, List.cons.injEq, and_true] at hv2
  subst hv2
  refine ⟨updF β o1 none, updF ν o1 (.slice none 0 0), hr.move rfl rfl ⟨rfl, Nat.le_refl _⟩ (Nat.le_refl _) (fun _ _ _ => rfl) hok hgoes ?_ ?_ ?_ ?_ ?_ rfl rfl (fun hv => .inl (hs _ (by intro e; rw [e, hso] at hv; cases hv) (by intro e; rw [e, hsb] at hv; cases hv)))⟩
  · intro j b hl hb'
    by_cases e1 : j = o1
    · subst e1; rw [updF_same] at hb'; cases hb'
    · rw [(hβn j e1).1] at hb'; exact .inl ⟨hlv j hl e1, hb'⟩
  · intro j j' b hl hl' h1 h2
    by_cases e1 : j = o1
    · subst e1; rw [updF_same] at h1; cases h1
    · by_cases e2 : j' = o1
      · subst e2; rw [updF_same] at h2; cases h2
      · rw [(hβn j e1).1] at h1
        rw [(hβn j' e2).1] at h2
        exact hr.inj j j' b (hlv j hl e1) (hlv j' hl' e2) h1 h2
  · intro j hl
    by_cases e1 : j = o1
    · subst e1
      right
      rw [hso]
      refine ⟨[], by rw [updF_same]; exact World.ownsRow_nil w 0 e sz, by rw [updF_same, updF_same]; rfl, blt_lt h0, by simp, by simp, by simp, fun i hi' => absurd hi' (Nat.not_lt_zero i)⟩
    · by_cases e2 : j = ob
      · subst e2
        right
        rw [hsb]
        refine ⟨b0, cs, ty, by rw [(hβn j e1).1]; exact g1, g2, g3, ?_⟩
        have hread : VR P (okAt X T (updF β o1 none) w) w T (updF β o1 none) (updF ν o1 (.slice none 0 0)) (.row o1 (newVer (t o1))) [.slice none 0 0] :=
          ⟨_, newVer (t o1), rfl, by rw [hso]; rfl, Nat.le_refl _, fun _ _ => (updF_same ..).symm⟩
        have := VR_set c off (.row o1 (newVer (t o1))) (.slice none 0 0) (VR_mono hok (Nat.le_refl _) hgoes _ g4) (blt_lt hi) hread
        have e3 : cs.toList.set off (.slice none 0 0) = cs.toList := by
          apply List.ext_getElem?
          intro i
          rw [List.getElem?_set]
          split
          · rename_i e; subst e; split
            · exact hv1.symm
            · rename_i hlt; rw [List.getElem?_eq_none (by omega)]
          · rfl
        rw [e3] at this
        exact this
      · obtain ⟨n1, n2⟩ := hβn j e1
        exact .inl ⟨hs j e1 e2, n1, n2, fun _ _ => rfl⟩
  · intro j hj; exact .inl ⟨hs j (by omega) (by omega), rfl⟩
  · intro j hj; rw [hs j (by omega) (by omega)]; exact hr.keys j hj
end
end Go.Um

/- Rules for code in the order in which a walk meets it. No condition. -/

namespace Go.Um
open Go Go.RowKit
def AWs (P : Program) (n : Nm) : List Code → St → (Exit → St → Prop) → Prop
  | [], s, Q => Q .normal s
  | c :: l, s, Q => AW P n c s (thn (fun s' => AWs P n l s' Q) Q)
def blkQ (P : Program) (n : Nm) (id : Nat) (l : List Code) (Q : Exit → St → Prop) : Exit → St → Prop
  | .normal, s => AWs P n l s Q
  | .exit id', s => bif Nat.beq id' id then AWs P n l s Q else Q (.exit id') s
  | e, s => Q e s
def lopQ (P : Program) {α : Type} (I : α → Prop) (S : α → List (Nat × AV)) (μ : α → Nat) (x : α) (Q : Exit → St → Prop) : Exit → St → Prop
  | .normal, s => ∃ y, I y ∧ μ y < μ x ∧ Le P s (ofL (S y))
  | e, s => Q e s

section
variable {P : Program} {n : Nm} {s : St} {Q : Exit → St → Prop} {l : List Code}

theorem AWs.one {c : Code} (h : AWs P n [c] s Q) : AW P n c s Q := AW.mono h (fun e s h => by cases e <;> exact h)

theorem f_nil (h : Q .normal s) : AWs P n [] s Q := h
theorem f_seq {x y : Code} (h : AWs P n (x :: y :: l) s Q) : AWs P n (.seq x y :: l) s Q := by
  refine AW.seq (AW.mono h (fun e s h => ?_))
  cases e <;> exact h
theorem f_region {id : Nat} {ol : List Oper} (h : DerS P n.n ol.toArray ol s (fun s' => AWs P n l s' Q)) (hnd : noDef ol.toArray = true := by first | rfl | kernel_rfl) : AWs P n (.region id ol.toArray false :: l) s Q := by
  obtain ⟨L, h⟩ := DerS.derL ol 0 h
  exact AW.region (L := L) h hnd
theorem f_draw {id : Nat} {ol : List Oper} (hm : P.follows .mixedOrders = true) (he : edgesOk ol.toArray = true) (h : DerD P n.n ol.toArray 0 ol [] s (fun s' => AWs P n l s' Q)) (hnd : noDef ol.toArray = true := by first | rfl | kernel_rfl) :
    AWs P n (.region id ol.toArray true :: l) s Q := by
  obtain ⟨L, h, hok⟩ := DerD.derL ol 0 [] h
  exact AW.draw (L := L) hm h he hnd (by simpa using hok)
theorem f_cond {c : Operand} {x y : Code} {t : Bool} (hc : ev s c = .val (.bool t)) (ht : t = true → AWs P n (x :: l) s Q) (hf : t = false → AWs P n (y :: l) s Q) : AWs P n (.cond c x y :: l) s Q := AW.cond hc ht hf
theorem f_skip (h : AWs P n l s Q) : AWs P n (.skip :: l) s Q := AW.skip h
theorem f_ret (h : Q .ret s) : AWs P n (.ret :: l) s Q := AW.ret h
theorem f_exit {id : Nat} (h : Q (.exit id) s) : AWs P n (.exit id :: l) s Q := AW.exit h
theorem f_block {id : Nat} {c : Code} (h : AWs P n [c] s (blkQ P n id l Q)) : AWs P n (.block id c :: l) s Q := by
  refine AW.block (AW.mono h.one (fun e s h => ?_))
  cases e with
  | exit id' =>
    simp only [blkQ] at h
    simp only [inB]
    cases hb : Nat.beq id' id
    · rw [hb] at h; exact h
    · rw [hb] at h; exact h
  | _ => exact h
theorem f_loop {α : Type} (I : α → Prop) (S : α → List (Nat × AV)) (μ : α → Nat) {c : Code} (a0 : α) (h0 : I a0) (hs : Le P s (ofL (S a0))) (round : ∀ x, I x → AWs P n [c] (ofL (S x)) (lopQ P I S μ x (thn (fun s' => AWs P n l s' Q) Q))) :
    AWs P n (.loop c :: l) s Q := by
  refine AW.loop I (fun x => ofL (S x)) μ a0 h0 hs (fun x hx => AW.mono (round x hx).one (fun e s h => ?_))
  cases e <;> exact h

theorem f_back {α : Type} {I : α → Prop} {S : α → List (Nat × AV)} {μ : α → Nat} {x : α} (h : ∃ y, I y ∧ μ y < μ x ∧ Le P s (ofL (S y))) : AWs P n [] s (lopQ P I S μ x Q) := h

theorem spec_of' {f : FuncId} {fn : Func} {c : Code} {args : List AV} {r : D} (hf : P.funcs[f]? = some fn) (hb : fn.body = some c) {n : Nat} (hn : fn.ntmps = n) (hl : Nat.blt args.length (n + 1) = true)
    (h : AWs P ⟨n, true⟩ [c] (initS args) (Ends P fn r)) : Spec P f args r := spec_of hf hb hn (by have := blt_lt hl; omega) h.one
theorem specN_of' {f : FuncId} {fn : Func} {c : Code} {args : List AV} {e sz by_ : Nat} {α : Type} {g : α → D} {xs : List α} (hf : P.funcs[f]? = some fn) (hb : fn.body = some c) {n : Nat} (hn : fn.ntmps = n) (hl : Nat.blt args.length (n + 1) = true)
    (h : AWs P ⟨n, true⟩ [c] (initS args) (EndsN P fn e sz by_ g xs)) : SpecN P f args e sz by_ g xs := by
  intro w ok vs hok hargs
  obtain ⟨X, hXn, rfl, rfl, hXb, hXd, hXk, hr⟩ := start_rel (fn := fn) hn (by have := blt_lt hl; omega) hok hargs
  refine calls_of_aft hf hb hXd (fun e s h => h.1) (h.one none X _ _ ⟨hXn, fun _ => rfl⟩ hr) ?_
  rintro en s X' a' w' β ν ⟨he, hres⟩ x1 x2 x3 x4 x5 x6 hr'
  obtain ⟨v, hv1, hv2⟩ := hres X' a' w' β ν (fun b => by rw [x4]; exact hXb b) hr'
  rw [x2, x3] at hv2
  refine ⟨v, hv1, v, rfl, hv2, ⟨⟨?_, ?_, ?_, ?_, ?_⟩, ?_⟩⟩
  · rw [← x2]; exact hr'.os
  · rw [← x2]; exact hr'.tape
  · rw [← x2]; exact hr'.output
  · rw [← x2]; exact hr'.size
  · intro k hk; rw [← x2] at hk ⊢; exact hr'.frame k hk (by rw [x4]; exact hXb k)
  · rw [← x2]; exact hr'.drawn

theorem f_wf (x : Operand) {d : D} (hx : ev s x = .val d) (h : d.wf → AWs P n l s Q) (hl : l ≠ []) : AWs P n l s Q := by
  match l, hl with
  | c :: l', _ => exact AW.wf x hx h

theorem f_le {s' : St} (hs : Le P s s') (h : AWs P n l s' Q) (hl : l ≠ []) : AWs P n l s Q := by
  match l, hl with
  | c :: _, _ => exact AW.weak hs h
theorem RelB.slotAs {X : Cx} {t : St} {a : Act} {w : World} {β : Nat → Option Nat} {ν : Nat → Value} (hr : RelB P X t a w β ν) {k : Nat} {y : AV} (hk : k < 10000) (hy : ver y = none) (hv : VR P (okAt X t β w) w t β ν y [a.tmps.getD k undef]) : RelB P X (upd t k y) a w β ν := by
  have hlv : ∀ j, live (upd t k y j) = true → upd t k y j = t j := by
    intro j hj
    by_cases e : j = k
    · subst e; rw [upd_same, live_ver hy] at hj; cases hj
    · exact upd_ne _ _ e
  have hgoes : Goes t (upd t k y) β β ν ν := by
    intro j m hm
    have e : j ≠ k := by rintro rfl; rw [hr.keys j hk] at hm; cases hm
    exact ⟨m, by rw [upd_ne _ _ e]; exact hm, Nat.le_refl _, fun _ hl => ⟨by rw [← hlv j hl]; exact hl, rfl, rfl⟩⟩
  have hok : ∀ b, okAt X t β w b → okAt X (upd t k y) β w b ∧ w.heap[b]? = w.heap[b]? := fun b hb => ⟨⟨hb.1, hb.2.1, fun j hl => hb.2.2 j (by rw [← hlv j hl]; exact hl)⟩, rfl⟩
  refine hr.move rfl rfl ⟨rfl, Nat.le_refl _⟩ (Nat.le_refl _) (fun _ _ _ => rfl) hok hgoes ?_ ?_ ?_ ?_ ?_ rfl rfl (fun _ => .inl (upd_ne _ _ (by omega)))
  · intro j b hl hb'; exact .inl ⟨by rw [← hlv j hl]; exact hl, hb'⟩
  · intro j j' b hl hl' h1 h2; exact hr.inj j j' b (by rw [← hlv j hl]; exact hl) (by rw [← hlv j' hl']; exact hl') h1 h2
  · intro j hl; exact .inl ⟨hlv j hl, rfl, rfl, fun _ _ => rfl⟩
  · intro j hj
    by_cases e : j = k
    · subst e; right; rw [upd_same]; exact VR_mono hok (Nat.le_refl _) hgoes _ hv
    · left; exact ⟨upd_ne _ _ e, rfl⟩
  · intro j hj
    by_cases e : j = k
    · subst e; rw [upd_same]; exact hy
    · rw [upd_ne _ _ e]; exact hr.keys j hj
theorem f_sl (k : Nat) {sz : Nat} {α : Type} {f : α → D} {z : α} {xs : List α} (hk4 : Nat.blt k 10000 = true) (hk : s k = .val (.list sz f z xs)) (h : ∀ b : Bool, (b = true → xs = []) → AWs P n l (upd s k (.val (.sl b (.list sz f z xs)))) Q) (hl : l ≠ []) : AWs P n l s Q := by
  match l, hl with
  | c :: l', _ =>
    rintro r X a w hX ⟨β, ν, hr⟩
    have hs := hr.slot k (blt_lt hk4)
    rw [hk] at hs
    obtain ⟨v, e, hv1, av, cap, hv2, hv3⟩ := hs
    simp only [List.cons.injEq, and_true] at e
    have hval : v = .slice av xs.length cap := by
      cases v <;> simp_all [Value.cells, vAgg, D.isAgg]
    refine h av.isNone (fun hb => ?_) r X a w hX ⟨β, ν, hr.slotAs (blt_lt hk4) rfl ?_⟩
    · cases xs with
      | nil => rfl
      | cons y ys =>
        obtain ⟨p, cs, e1, _⟩ := hv3.2.2.2 0 (by simp)
        rw [e1] at hb
        cases hb
    · rw [e]
      exact ⟨v, rfl, hv1, ⟨av, cap, hv2, hv3⟩, rfl, av, xs.length, cap, hv2, rfl⟩

theorem res_eq {fn : Func} {r r' : D} (h : Res P fn s r) (e : r = r') : Res P fn s r' := e ▸ h
theorem ends_ret {fn : Func} {r : D} (h : Res P fn s r) : Ends P fn r .ret s := ⟨.inl rfl, h⟩
theorem endsN_ret {fn : Func} {e sz by_ : Nat} {α : Type} {f : α → D} {xs : List α} (h : ResN P fn s e sz by_ f xs) : EndsN P fn e sz by_ f xs .ret s := ⟨.inl rfl, h⟩
end

section
variable {P : Program} {ok : Nat → Prop} {w : World}
theorem R_len : ∀ {c : D} {cs : List Value}, c.chain = true → R P c ok w cs → cs.length = c.len
  | .nil, cs, _, h => by simp only [R] at h; subst h; rfl
  | .cons a b, cs, hc, h => by obtain ⟨v, vs, rfl, _, _, h3⟩ := h; simp [D.len, R_len (c := b) hc h3]
  | .int .., _, hf, _ => by cases hf
  | .bool .., _, hf, _ => by cases hf
  | .str .., _, hf, _ => by cases hf
  | .agg .., _, hf, _ => by cases hf
  | .tup .., _, hf, _ => by cases hf
  | .list .., _, hf, _ => by cases hf
  | .fn .., _, hf, _ => by cases hf
  | .sl .., _, hf, _ => by cases hf
  | .any, _, hf, _ => by cases hf
  | .ptr .., _, hf, _ => by cases hf
  | .clp .., _, hf, _ => by cases hf
  | .ifc .., _, hf, _ => by cases hf
theorem z_nil : R P .nil ok w [] := rfl
theorem z_int {k : IntKind} {m : Int} {b : D} {vs : List Value} (h : R P b ok w vs) : R P (.cons (.int k m) b) ok w (.int k m :: vs) := ⟨_, _, rfl, rfl, rfl, h⟩
theorem z_list {sz : Nat} {α : Type} {f : α → D} {z : α} {b : D} {vs : List Value} (h : R P b ok w vs) : R P (.cons (.list sz f z []) b) ok w (.slice none 0 0 :: vs) :=
  ⟨_, _, rfl, rfl, ⟨none, 0, rfl, Nat.le_refl _, Nat.zero_le _, Nat.zero_le _, fun _ hi => absurd hi (Nat.not_lt_zero _)⟩, h⟩
end
theorem bs : (∀ (p : Prop) [Decidable p], (decide p = true) = p) ∧ (∀ (p : Prop) [Decidable p], (decide p = false) = ¬ p) ∧ (∀ a b : Bool, ((a || b) = true) = (a = true ∨ b = true)) ∧ (∀ a b : Bool, ((a && b) = true) = (a = true ∧ b = true)) ∧
    (∀ a b : Bool, ((a || b) = false) = (a = false ∧ b = false)) ∧ (∀ a b : Bool, ((a && b) = false) = (a = false ∨ b = false)) ∧ (∀ a : Bool, ((!a) = true) = (a = false)) ∧ (∀ a : Bool, ((!a) = false) = (a = true)) ∧
    (∀ a b : Bool, ((a == b) = true) = (a = b)) ∧ (∀ a b : Int, (¬ a < b) = (b ≤ a)) ∧ (∀ a b : Int, (¬ a ≤ b) = (b < a)) ∧ (∀ n : Nat, ((n : Int).toNat) = n) ∧ (∀ p : Prop, (¬ ¬ p) = p) := by
  refine ⟨fun p _ => by simp, fun p _ => by simp, fun a b => by simp, fun a b => by simp, fun a b => by simp, fun a b => by cases a <;> cases b <;> simp, fun a => by simp, fun a => by simp, fun a b => by simp, fun a b => by simp, fun a b => by simp, fun n => by simp, fun p => by simp⟩
abbrev iv (n : Int) : AV := .val (.int .i64 n)
abbrev bv (b : Bool) : AV := .val (.bool b)
abbrev di (n : Int) : D := .int .i64 n
abbrev ints (l : List Int) : D := .list 1 di 0 l
abbrev bools (l : List Bool) : D := .list 1 D.bool false l
abbrev intss (l : List (List Int)) : D := .list 1 ints [] l
abbrev boolss (l : List (List Bool)) : D := .list 1 bools [] l
abbrev st (l : D) : D := .agg l
abbrev fault (c a : Int) : D := .agg (.cons (di c) (.cons (di a) .nil))
abbrev dPar (p : List Int × Bool) : D := .agg (.cons (ints p.1) (.cons (.bool p.2) .nil))
abbrev pars (l : List (List Int × Bool)) : D := .list 2 dPar ([], false) l
abbrev dCho (p : Int × Int × Int) : D := .agg (.cons (di p.1) (.cons (di p.2.1) (.cons (di p.2.2) .nil)))
abbrev chos (l : List (Int × Int × Int)) : D := .list 3 dCho (0, 0, 0) l
abbrev cnf (n : Int) (l : List (List Int)) : D := .agg (.cons (di n) (.cons (intss l) .nil))
abbrev dia (l : List (Int × Int × Int)) (r : Int) : D := .agg (.cons (chos l) (.cons (di r) .nil))
abbrev trail (l w : List Int) (a : Int) : D := .agg (.cons (ints l) (.cons (ints w) (.cons (di a) .nil)))
abbrev two (a b : D) : D := .tup (.cons a (.cons b .nil))
abbrev three (a b c : D) : D := .tup (.cons a (.cons b (.cons c .nil)))
end Go.Um

/- Contracts of functions that change objects of their caller. No condition. -/

namespace Go.Um
open Go Go.RowKit
def updL (s : St) : List (Nat × AV) → St
  | [] => s
  | (k, x) :: l => upd (updL s l) k x

def keysL (l : List (Nat × AV)) : List Nat := l.map (·.1)

theorem updL_off {s : St} {k : Nat} : ∀ {l : List (Nat × AV)}, k ∉ keysL l → updL s l k = s k
  | [], _ => rfl
  | (j, x) :: l, h => by
    simp only [keysL, List.map_cons, List.mem_cons, not_or] at h
    rw [updL, upd_ne _ _ h.1]
    exact updL_off h.2

theorem updL_on {s : St} {k : Nat} : ∀ {l : List (Nat × AV)}, k ∈ keysL l → updL s l k = ofL l k
  | [], h => by cases h
  | (j, x) :: l, h => by
    by_cases e : k = j
    · subst e; rw [updL, upd_same]; simp [ofL]
    · have hb : Nat.beq k j = false := by
        cases hb : Nat.beq k j
        · rfl
        · exact absurd (Nat.eq_of_beq_eq_true hb) e
      rw [updL, upd_ne _ _ e, ofL, hb]
      simp only [keysL, List.map_cons, List.mem_cons] at h
      exact updL_on (h.resolve_left e)

theorem ofL_off {k : Nat} : ∀ {l : List (Nat × AV)}, k ∉ keysL l → ofL l k = .any
  | [], _ => rfl
  | (j, x) :: l, h => by
    simp only [keysL, List.map_cons, List.mem_cons, not_or] at h
    have hb : Nat.beq k j = false := by
      cases hb : Nat.beq k j
      · rfl
      · exact absurd (Nat.eq_of_beq_eq_true hb) h.1
    rw [ofL, hb]
    exact ofL_off h.2
def anchor : List (Nat × AV) → AV
  | [] => .cnil
  | (k, .box u _) :: l => .ccons (.ref k u 0) (.ccons (.row k u) (anchor l))
  | (k, .arr u ..) :: l => .ccons (.row k u) (anchor l)
  | (k, .mp u ..) :: l => .ccons (.ref k u 0) (.ccons (.row k u) (anchor l))
  | _ :: l => anchor l

def ArgsV (P : Program) (ok : Nat → Prop) (w : World) (s : St) (β : Nat → Option Nat) (ν : Nat → Value) : List AV → List Value → Prop
  | [], vs => vs = []
  | x :: xs, vs => ∃ v vs', vs = v :: vs' ∧ VR P ok w s β ν x [v] ∧ ArgsV P ok w s β ν xs vs'
def withA (S0 S : List (Nat × AV)) : List (Nat × AV) := (29999, .clo 0 (anchor S0)) :: S
def SpecB (P : Program) (f : FuncId) (args : List AV) (S0 : List (Nat × AV)) (r : D) (S1 : List (Nat × AV)) : Prop :=
  ∀ (X : Cx) (a : Act) (β : Nat → Option Nat) (ν : Nat → Value) (vs : List Value), RelB P X (ofL (withA S0 S0)) a X.w0 β ν → ArgsV P (okAt X (ofL (withA S0 S0)) β X.w0) X.w0 (ofL (withA S0 S0)) β ν args vs →
    Calls P f vs.toArray X.w0 (fun e w' => ∃ v β' ν', e = .returned v ∧ RelB P X (ofL (withA S0 S1)) a w' β' ν' ∧ RV P r (okAt X (ofL (withA S0 S1)) β' w') w' v)

def initB (args : List AV) (S : List (Nat × AV)) : St := fun t => bif Nat.blt t 10000 then initS args t else ofL S t

theorem ArgsV_len {P : Program} {ok : Nat → Prop} {w : World} {s : St} {β : Nat → Option Nat} {ν : Nat → Value} : ∀ {args : List AV} {vs : List Value}, ArgsV P ok w s β ν args vs → vs.length = args.length
  | [], _, h => by simp only [ArgsV] at h; subst h; rfl
  | x :: xs, _, h => by obtain ⟨v, vs', rfl, _, h2⟩ := h; simp [ArgsV_len h2]

theorem ArgsV_get {P : Program} {ok : Nat → Prop} {w : World} {s : St} {β : Nat → Option Nat} {ν : Nat → Value} : ∀ {args : List AV} {vs : List Value}, ArgsV P ok w s β ν args vs → ∀ t, VR P ok w s β ν (initS args t) [vs.getD t undef]
  | [], _, h, t => ⟨_, rfl⟩
  | x :: xs, vs, h, 0 => by obtain ⟨v, vs', rfl, h1, h2⟩ := h; exact h1
  | x :: xs, vs, h, t + 1 => by obtain ⟨v, vs', rfl, h1, h2⟩ := h; exact ArgsV_get h2 t

theorem VR_ver {P : Program} {ok : Nat → Prop} {w : World} {s : St} {β : Nat → Option Nat} {ν : Nat → Value} {x : AV} {vs : List Value} (h : VR P ok w s β ν x vs) : ver x = none := by
  cases x <;> first | rfl | exact h.elim
def ResB (P : Program) (fn : Func) (s : St) (r : D) : Prop :=
  ∀ (X : Cx) (a : Act) (w : World) (β : Nat → Option Nat) (ν : Nat → Value), RelB P X s a w β ν → ∃ v, (results fn a.tmps).run P w = .ok v w ∧ RV P r (okAt X s β w) w v

def EndsB (P : Program) (fn : Func) (S0 : List (Nat × AV)) (r : D) (S1 : List (Nat × AV)) (e : Exit) (s : St) : Prop := (e = .ret ∨ e = .normal) ∧ ResB P fn s r ∧ allEq s (withA S0 S1) ∧ closedL (withA S0 S1) = true

theorem specB_of' {P : Program} {f : FuncId} {fn : Func} {c : Code} {args : List AV} {S0 S1 : List (Nat × AV)} {r : D} (hf : P.funcs[f]? = some fn) (hb : fn.body = some c) {n : Nat} (hn : fn.ntmps = n) (hl : Nat.blt args.length (n + 1) = true) (hk : (keysL S0).all (Nat.blt 9999) = true) (hk1 : (keysL S1).all (Nat.blt 9999) = true)
    (h : AWs P ⟨n, true⟩ [c] (initB args (withA S0 S0)) (EndsB P fn S0 r S1)) : SpecB P f args S0 r S1 := by
  intro X a β ν vs hr hargs
  have hlen := ArgsV_len hargs
  have hl' := blt_lt hl
  let X2 : Cx := { n := n, w0 := X.w0, ok0 := X.ok0, bor := X.bor, av := X.av, kp := X.kp, defs := [], hok := X.hok }
  have hsm : ∀ t, t < 10000 → ofL (withA S0 S0) t = .any := by
    intro t ht
    apply ofL_off
    simp only [withA, keysL, List.map_cons, List.mem_cons, not_or]
    refine ⟨by omega, fun hm => ?_⟩
    have := blt_lt (List.all_eq_true.1 hk t hm)
    omega
  have hbig : ∀ t, ¬ t < 10000 → initB args (withA S0 S0) t = ofL (withA S0 S0) t := by
    intro t ht
    have : Nat.blt t 10000 = false := by
      cases hb : Nat.blt t 10000
      · rfl
      · exact absurd (blt_lt hb) ht
    simp only [initB, this, cond_false]
  have hlit : ∀ t, t < 10000 → initB args (withA S0 S0) t = initS args t := by
    intro t ht
    have : Nat.blt t 10000 = true := by simp [Nat.blt]; omega
    simp only [initB, this, cond_true]
  have hver : ∀ t, t < 10000 → ver (initB args (withA S0 S0) t) = none := fun t ht => by rw [hlit t ht]; exact VR_ver (ArgsV_get hargs t)
  have hvl : ∀ o, ver (initB args (withA S0 S0) o) = ver (ofL (withA S0 S0) o) ∧ live (initB args (withA S0 S0) o) = live (ofL (withA S0 S0) o) := by
    intro o
    by_cases ho : o < 10000
    · rw [hsm o ho]; exact ⟨hver o ho, live_ver (hver o ho)⟩
    · rw [hbig o ho]; exact ⟨rfl, rfl⟩
  have hok : ∀ b, okAt X (ofL (withA S0 S0)) β X.w0 b → okAt X2 (initB args (withA S0 S0)) β X.w0 b ∧ X.w0.heap[b]? = X.w0.heap[b]? := fun b hb' => ⟨⟨hb'.1, hb'.2.1, fun o hl => hb'.2.2 o (by rw [← (hvl o).2]; exact hl)⟩, rfl⟩
  have hgoes : Goes (ofL (withA S0 S0)) (initB args (withA S0 S0)) β β ν ν := fun o k hk' => ⟨k, by rw [(hvl o).1]; exact hk', Nat.le_refl _, fun _ hl => ⟨by rw [← (hvl o).2]; exact hl, rfl, rfl⟩⟩
  have hg : ∀ t, (vs.toArray ++ Array.replicate (fn.ntmps - vs.toArray.size) undef).getD t undef = vs.getD t undef := by
    intro t
    simp only [Array.getD_eq_getD_getElem?, List.getD_eq_getElem?_getD, Array.getElem?_append, List.getElem?_toArray, List.size_toArray]
    split
    · rfl
    · rename_i hlt
      rw [List.getElem?_eq_none (by omega : vs.length ≤ t)]
      simp only [Array.getElem?_replicate]
      split <;> rfl
  have hr2 : Rel P X2 (initB args (withA S0 S0)) { tmps := vs.toArray ++ Array.replicate (fn.ntmps - vs.toArray.size) undef, defers := [] } X.w0 := by
    refine ⟨β, ν, ?_⟩
    exact {
      os := rfl, tape := rfl, output := rfl, drawn := Nat.le_refl _, size := Nat.le_refl _, frame := fun _ _ _ => rfl
      kept := fun b o hb => ⟨(hok b (hr.kept b o hb).1).1, (hr.kept b o hb).2⟩
      own := fun o b hl hb' => hr.own o b (by rw [← (hvl o).2]; exact hl) hb'
      inj := fun o o' b hl hl' => hr.inj o o' b (by rw [← (hvl o).2]; exact hl) (by rw [← (hvl o').2]; exact hl')
      obj := fun o => by
        by_cases ho : o < 10000
        · exact OR_dead (live_ver (hver o ho))
        · rw [hbig o ho]
          exact OR_mono hok (Nat.le_refl _) hgoes rfl rfl (fun _ _ => rfl) _ (hr.obj o)
      slot := fun t ht => by
        show VR P _ X.w0 _ _ _ _ [(vs.toArray ++ Array.replicate (fn.ntmps - vs.toArray.size) undef).getD t undef]
        rw [hg t, hlit t ht]
        exact VR_mono hok (Nat.le_refl _) hgoes _ (ArgsV_get hargs t)
      keys := hver
      tmps := by simp [X2, hn, hlen]; omega
      defers := rfl
      anch := fun hv => by
        rw [hbig 29999 (by omega)] at hv ⊢
        exact VR_mono hok (Nat.le_refl _) hgoes _ (hr.anch hv) }
  refine calls_of_aft (X := X2) hf hb rfl (fun e s h => h.1) (h.one none X2 _ _ ⟨rfl, fun _ => rfl⟩ hr2) ?_
  rintro e s' X3 a' w' β' ν' ⟨he, hres, hall, hcl⟩ x1 x2 x3 x4 x5 x6 hr'
  obtain ⟨v, hv1, hv2⟩ := hres X3 a' w' β' ν' hr'
  have hr3 := hr'.ofL hall hcl
  have hoke : ∀ (s : St) (b : Nat), okAt X3 s β' w' b → okAt X s β' w' b := fun s b hb' => by
    unfold okAt at hb' ⊢
    rw [x2, x3, x4] at hb'
    exact hb'
  have hsm1 : ∀ t, t < 10000 → ofL (withA S0 S1) t = .any := by
    intro t ht
    apply ofL_off
    simp only [withA, keysL, List.map_cons, List.mem_cons, not_or]
    refine ⟨by omega, fun hm => ?_⟩
    have := blt_lt (List.all_eq_true.1 hk1 t hm)
    omega
  have hlv : ∀ o, live (ofL (withA S0 S1) o) = true → ofL (withA S0 S1) o = s' o := by
    intro o hl
    rcases ofL_cases hall o with h' | ⟨h', _⟩
    · exact h'
    · rw [h'] at hl; cases hl
  refine ⟨v, hv1, v, β', ν', rfl, ?_, RV_mono (fun b hb' => ⟨hoke _ b ⟨hb'.1, hb'.2.1, fun o hl => hb'.2.2 o (by rw [← hlv o hl]; exact hl)⟩, rfl⟩) (Nat.le_refl _) hv2⟩
  have hgr : ∀ x vs, VR P (okAt X3 (ofL (withA S0 S1)) β' w') w' (ofL (withA S0 S1)) β' ν' x vs → VR P (okAt X (ofL (withA S0 S1)) β' w') w' (ofL (withA S0 S1)) β' ν' x vs := fun x vs hv => VR_mono (fun b hb' => ⟨hoke _ b hb', rfl⟩) (Nat.le_refl _) (Goes.refl _ _ _) x hv
  exact {
    os := by rw [hr3.os, x2], tape := by rw [hr3.tape, x2], output := by rw [hr3.output, x2], drawn := by have := hr3.drawn; rw [x2] at this; exact this
    size := by have := hr3.size; rw [x2] at this; exact this
    frame := fun b hb' hn' => by have := hr3.frame b (by rw [x2]; exact hb') (by rw [x4]; exact hn'); rw [x2] at this; exact this
    own := fun o b hl hb' => by have := hr3.own o b hl hb'; rw [x2, x4] at this; exact this
    inj := hr3.inj
    obj := fun o => OR_mono (fun b hb' => ⟨hoke _ b hb', rfl⟩) (Nat.le_refl _) (Goes.refl _ _ _) rfl rfl (fun _ _ => rfl) _ (hr3.obj o)
    slot := fun t ht => by rw [hsm1 t ht]; exact ⟨_, rfl⟩
    keys := fun t ht => by rw [hsm1 t ht]; rfl
    tmps := hr.tmps, defers := hr.defers
    kept := fun b o hb' => by have := hr3.kept b o (by rw [x6]; exact hb'); exact ⟨hoke _ b this.1, this.2⟩
    anch := fun hv => by have := hgr _ _ (hr3.anch hv); rw [x5] at this; exact this }

section
variable {P : Program}

theorem anchor_exist {ok : Nat → Prop} {w : World} {st : St} {β : Nat → Option Nat} {ν : Nat → Value} : ∀ (l : List (Nat × AV)), (∀ p ∈ l, st p.1 = p.2 ∧ OR P ok w st β ν p.1 p.2) → ∃ caps, VR P ok w st β ν (anchor l) caps
  | [], _ => ⟨[], rfl⟩
  | (k, x) :: l, h => by
    obtain ⟨caps, hc⟩ := anchor_exist l (fun p hp => h p (List.mem_cons_of_mem _ hp))
    obtain ⟨h1, h2⟩ := h (k, x) (List.mem_cons_self ..)
    simp only at h1 h2
    cases x with
    | box u c =>
      obtain ⟨b, cs, ty, g1, _⟩ := h2
      refine ⟨.pointer (some ⟨b, 0, none⟩) :: ν k :: caps, _, _, rfl, ?_, _, _, rfl, ?_, hc⟩
      · exact ⟨_, u, rfl, by rw [h1]; rfl, Nat.le_refl _, fun _ _ => ⟨b, g1, rfl⟩⟩
      · exact ⟨_, u, rfl, by rw [h1]; rfl, Nat.le_refl _, fun _ _ => rfl⟩
    | arr u e sz by_ f z xs => exact ⟨ν k :: caps, _, _, rfl, ⟨_, u, rfl, by rw [h1]; rfl, Nat.le_refl _, fun _ _ => rfl⟩, hc⟩
    | mp u kv vv m =>
      obtain ⟨b, _, _, _, g1, _⟩ := h2
      refine ⟨.pointer (some ⟨b, 0, none⟩) :: ν k :: caps, _, _, rfl, ?_, _, _, rfl, ?_, hc⟩
      · exact ⟨_, u, rfl, by rw [h1]; rfl, Nat.le_refl _, fun _ _ => ⟨b, g1, rfl⟩⟩
      · exact ⟨_, u, rfl, by rw [h1]; rfl, Nat.le_refl _, fun _ _ => rfl⟩
    | _ => exact ⟨caps, hc⟩
def anc : AV → Bool
  | .box .. => true
  | .arr .. => true
  | .mp .. => true
  | .any => true
  | _ => false
def ancD : AV → Bool
  | .dead _ => true
  | x => anc x
theorem anc_D {l : List (Nat × AV)} (h : l.all (fun p => anc p.2) = true) : l.all (fun p => ancD p.2) = true := by
  rw [List.all_eq_true] at h ⊢
  intro p hp
  have := h p hp
  generalize p.2 = x at this ⊢
  cases x <;> first | rfl | cases this
def DeadOk (S1 : List (Nat × AV)) : List (Nat × AV) → Prop
  | [] => True
  | (k, .dead u) :: l => (∃ k', ver (ofL S1 k) = some k' ∧ u < k') ∧ DeadOk S1 l
  | _ :: l => DeadOk S1 l

theorem DeadOk.mem {S1 : List (Nat × AV)} : ∀ {l : List (Nat × AV)}, DeadOk S1 l → ∀ p ∈ l, ∀ u, p.2 = .dead u → ∃ k', ver (ofL S1 p.1) = some k' ∧ u < k'
  | [], _, p, hp, _, _ => by cases hp
  | (k, x) :: l, h, p, hp, u, e => by
    rcases List.mem_cons.1 hp with rfl | hp
    · simp only at e
      subst e
      exact h.1
    · refine DeadOk.mem (l := l) ?_ p hp u e
      cases x <;> first | exact h.2 | exact h

theorem DeadOk.none {S1 : List (Nat × AV)} : ∀ {l : List (Nat × AV)}, l.all (fun p => anc p.2) = true → DeadOk S1 l
  | [], _ => trivial
  | (k, x) :: l, h => by
    rw [List.all_cons, Bool.and_eq_true] at h
    have ih := DeadOk.none (S1 := S1) h.2
    cases x <;> first | exact ih | cases h.1

def isArr : AV → Bool
  | .arr .. => true
  | _ => false

theorem anchor_goes {ok ok' : Nat → Prop} {w w' : World} {s s' : St} {β β' : Nat → Option Nat} {ν ν' : Nat → Value} : ∀ (l : List (Nat × AV)) {caps : List Value}, VR P ok w s β ν (anchor l) caps → VR P ok' w' s' β' ν' (anchor l) caps →
    (∀ p ∈ l, s p.1 = p.2 ∧ ancD p.2 = true ∧ OR P ok w s β ν p.1 p.2) → (∀ p ∈ l, ∀ u, p.2 = .dead u → ∃ k', ver (s' p.1) = some k' ∧ u < k') → (∀ o, OR P ok' w' s' β' ν' o (s' o)) → (∀ p ∈ l, isArr p.2 = true → live (s' p.1) = true → isArr (s' p.1) = true) → ∀ p ∈ l, GoesAt s s' β β' ν ν' p.1
  | [], _, _, _, _, _, _, _, p, hp => by cases hp
  | (k, x) :: l, caps, h1, h2, hs, hdd, ho, hka, p, hp => by
    obtain ⟨g1, g2, g3⟩ := hs (k, x) (List.mem_cons_self ..)
    simp only at g1 g2 g3
    cases x with
    | box u c =>
      obtain ⟨v, vs, rfl, a1, v2, vs2, rfl, a2, a3⟩ := h1
      obtain ⟨v', vs', e, b1, v2', vs2', e2, b2, b3⟩ := h2
      cases e; cases e2
      rcases List.mem_cons.1 hp with rfl | hp
      · intro m hm
        simp only at hm ⊢
        rw [g1] at hm
        simp only [ver, Option.some.injEq] at hm
        subst hm
        obtain ⟨q, k1, e, c1, c2, c3⟩ := b1
        obtain ⟨q2, k2, e2, d1, d2, d3⟩ := b2
        obtain ⟨q3, k3, e3, f1, f2, f3⟩ := a1
        obtain ⟨q4, k4, e4, i1, i2, i3⟩ := a2
        simp only [List.cons.injEq, and_true] at e e2 e3 e4
        rw [g1] at f1 i1
        simp only [ver, Option.some.injEq] at f1 i1
        refine ⟨k1, c1, c2, fun hk hl => ?_⟩
        rw [c1] at d1
        cases d1
        obtain ⟨b, hb1, hb2⟩ := c3 hk.symm hl
        obtain ⟨b', hb3, hb4⟩ := f3 f1 (by rw [g1]; rfl)
        refine ⟨by rw [g1]; rfl, ?_, ?_⟩
        · rw [hb1, hb3]
          rw [← e, e3, hb4] at hb2
          cases hb2
          rfl
        · rw [← d3 hk.symm hl, ← i3 i1 (by rw [g1]; rfl), ← e2, e4]
      · exact anchor_goes l a3 b3 (fun q hq => hs q (List.mem_cons_of_mem _ hq)) (fun q hq => hdd q (List.mem_cons_of_mem _ hq)) ho (fun q hq => hka q (List.mem_cons_of_mem _ hq)) p hp
    | mp u kv vv m =>
      obtain ⟨v, vs, rfl, a1, v2, vs2, rfl, a2, a3⟩ := h1
      obtain ⟨v', vs', e, b1, v2', vs2', e2, b2, b3⟩ := h2
      cases e; cases e2
      rcases List.mem_cons.1 hp with rfl | hp
      · intro m hm
        simp only at hm ⊢
        rw [g1] at hm
        simp only [ver, Option.some.injEq] at hm
        subst hm
        obtain ⟨q, k1, e, c1, c2, c3⟩ := b1
        obtain ⟨q2, k2, e2, d1, d2, d3⟩ := b2
        obtain ⟨q3, k3, e3, f1, f2, f3⟩ := a1
        obtain ⟨q4, k4, e4, i1, i2, i3⟩ := a2
        simp only [List.cons.injEq, and_true] at e e2 e3 e4
        rw [g1] at f1 i1
        simp only [ver, Option.some.injEq] at f1 i1
        refine ⟨k1, c1, c2, fun hk hl => ?_⟩
        rw [c1] at d1
        cases d1
        obtain ⟨b, hb1, hb2⟩ := c3 hk.symm hl
        obtain ⟨b', hb3, hb4⟩ := f3 f1 (by rw [g1]; rfl)
        refine ⟨by rw [g1]; rfl, ?_, ?_⟩
        · rw [hb1, hb3]
          rw [← e, e3, hb4] at hb2
          cases hb2
          rfl
        · rw [← d3 hk.symm hl, ← i3 i1 (by rw [g1]; rfl), ← e2, e4]
      · exact anchor_goes l a3 b3 (fun q hq => hs q (List.mem_cons_of_mem _ hq)) (fun q hq => hdd q (List.mem_cons_of_mem _ hq)) ho (fun q hq => hka q (List.mem_cons_of_mem _ hq)) p hp
    | arr u e0 sz by_ f z xs =>
      obtain ⟨v, vs, rfl, a1, a3⟩ := h1
      obtain ⟨v', vs', e, b1, b3⟩ := h2
      cases e
      rcases List.mem_cons.1 hp with rfl | hp
      · intro m hm
        simp only at hm ⊢
        rw [g1] at hm
        simp only [ver, Option.some.injEq] at hm
        subst hm
        obtain ⟨q, k1, e, c1, c2, c3⟩ := b1
        obtain ⟨q3, k3, e3, f1, f2, f3⟩ := a1
        simp only [List.cons.injEq, and_true] at e e3
        rw [g1] at f1
        simp only [ver, Option.some.injEq] at f1
        refine ⟨k1, c1, c2, fun hk hl => ?_⟩
        have hν : ν' k = ν k := by rw [← c3 hk.symm hl, ← f3 f1 (by rw [g1]; rfl), ← e, e3]
        refine ⟨by rw [g1]; rfl, ?_, hν⟩
        have ha := hka (k, .arr u e0 sz by_ f z xs) (List.mem_cons_self ..) rfl hl
        simp only at ha
        have ho' := ho k
        obtain ⟨_, _, hb0, _⟩ := g3
        generalize s' k = y at ha ho'
        cases y with
        | arr u' e' sz' by' f' z' xs' =>
          obtain ⟨_, _, hb1, _⟩ := ho'
          rw [hb1, hb0, hν]
        | _ => cases ha
      · exact anchor_goes l a3 b3 (fun q hq => hs q (List.mem_cons_of_mem _ hq)) (fun q hq => hdd q (List.mem_cons_of_mem _ hq)) ho (fun q hq => hka q (List.mem_cons_of_mem _ hq)) p hp
    | dead u =>
      rcases List.mem_cons.1 hp with rfl | hp
      · intro m hm
        simp only at hm ⊢
        rw [g1] at hm
        simp only [ver, Option.some.injEq] at hm
        subst hm
        obtain ⟨k', e1, e2⟩ := hdd (k, .dead u) (List.mem_cons_self ..) u rfl
        exact ⟨k', e1, by omega, fun e _ => by omega⟩
      · exact anchor_goes l h1 h2 (fun q hq => hs q (List.mem_cons_of_mem _ hq)) (fun q hq => hdd q (List.mem_cons_of_mem _ hq)) ho (fun q hq => hka q (List.mem_cons_of_mem _ hq)) p hp
    | any =>
      rcases List.mem_cons.1 hp with rfl | hp
      · intro m hm
        simp only at hm
        rw [g1] at hm
        cases hm
      · exact anchor_goes l h1 h2 (fun q hq => hs q (List.mem_cons_of_mem _ hq)) (fun q hq => hdd q (List.mem_cons_of_mem _ hq)) ho (fun q hq => hka q (List.mem_cons_of_mem _ hq)) p hp
    | _ => cases g2

theorem ArgsV_mono {ok ok' : Nat → Prop} {w : World} {s s' : St} {β β' : Nat → Option Nat} {ν ν' : Nat → Value} (hk : ∀ b, ok b → ok' b) : ∀ {args : List AV} {vs : List Value}, (∀ y ∈ args, ∀ o ∈ ment y, GoesAt s s' β β' ν ν' o) → ArgsV P ok w s β ν args vs → ArgsV P ok' w s' β' ν' args vs
  | [], _, _, h => h
  | x :: xs, _, hm, h => by
    obtain ⟨v, vs', rfl, h1, h2⟩ := h
    exact ⟨v, vs', rfl, VR_mono' (fun b hb => ⟨hk b hb, rfl⟩) (Nat.le_refl _) x (hm x (List.mem_cons_self ..)) h1, ArgsV_mono hk (fun y hy => hm y (List.mem_cons_of_mem _ hy)) h2⟩

theorem closedL_mem {l : List (Nat × AV)} (hc : closedL l = true) {p : Nat × AV} (hp : p ∈ l) : ∀ o ∈ ment p.2, o ∈ keysL l := by
  intro o ho
  simp only [closedL, List.all_eq_true, List.any_eq_true] at hc
  obtain ⟨q, hq, hqe⟩ := hc p hp o ho
  have := Nat.eq_of_beq_eq_true hqe
  subst this
  exact List.mem_map.2 ⟨q, hq, rfl⟩

theorem ofL_mem {l : List (Nat × AV)} {k : Nat} (h : k ∈ keysL l) : (k, ofL l k) ∈ l := by
  induction l with
  | nil => cases h
  | cons p l ih =>
    obtain ⟨j, x⟩ := p
    by_cases e : k = j
    · subst e; simp [ofL]
    · have hb : Nat.beq k j = false := by
        cases hb : Nat.beq k j
        · rfl
        · exact absurd (Nat.eq_of_beq_eq_true hb) e
      simp only [keysL, List.map_cons, List.mem_cons] at h
      rw [ofL, hb]
      exact List.mem_cons_of_mem _ (ih (h.resolve_left e))

theorem withA_on {S0 S : List (Nat × AV)} {k : Nat} (h : k ≠ 29999) : ofL (withA S0 S) k = ofL S k := by
  have hb : Nat.beq k 29999 = false := by
    cases hb : Nat.beq k 29999
    · rfl
    · exact absurd (Nat.eq_of_beq_eq_true hb) h
  rw [withA, ofL, hb]
  rfl
theorem anchor_ment : ∀ (l : List (Nat × AV)), ∀ o ∈ ment (anchor l), o ∈ keysL l
  | [], o, h => by cases h
  | (k, x) :: l, o, h => by
    have ih := anchor_ment l o
    simp only [keysL, List.map_cons, List.mem_cons]
    cases x with
    | box u c =>
      simp only [anchor, ment, List.cons_append, List.nil_append, List.mem_cons] at h
      rcases h with h | h | h
      · exact .inl h
      · exact .inl h
      · exact .inr (ih h)
    | mp u kv vv m =>
      simp only [anchor, ment, List.cons_append, List.nil_append, List.mem_cons] at h
      rcases h with h | h | h
      · exact .inl h
      · exact .inl h
      · exact .inr (ih h)
    | arr u e sz by_ f z xs =>
      simp only [anchor, ment, List.cons_append, List.nil_append, List.mem_cons] at h
      rcases h with h | h
      · exact .inl h
      · exact .inr (ih h)
    | _ => exact .inr (ih h)
theorem callB_core {X : Cx} {t : St} {a : Act} {w : World} {β : Nat → Option Nat} {ν : Nat → Value} (hr : RelB P X t a w β ν) {S0 : List (Nat × AV)}
    (hS : allEq t S0) (hlv : S0.all (fun p => ancD p.2) = true) (hc0 : closedL S0 = true) (hk4 : (keysL S0).all (fun k => Nat.blt 9999 k && !Nat.beq k 29999) = true) :
    ∃ X' : Cx, X'.n = a.tmps.size ∧ X'.w0 = w ∧ X'.defs = a.defers ∧ (∀ b, X'.kp b = none) ∧ RelB P X' (ofL (withA S0 S0)) a w β ν ∧ (∀ b, okAt X t β w b → okAt X' (ofL (withA S0 S0)) β w b) ∧ (∀ b, okAt X t β w b → X'.ok0 b ∧ ¬ X'.bor b) ∧ (∀ o ∈ keysL S0, GoesAt t (ofL (withA S0 S0)) β β ν ν o) ∧
      ∀ (S1 : List (Nat × AV)), DeadOk S1 S0 → closedL S1 = true → keysL S1 = keysL S0 → S0.all (fun p => !isArr p.2 || !live (ofL S1 p.1) || isArr (ofL S1 p.1)) = true → ∀ w' β1 ν1, RelB P X' (ofL (withA S0 S1)) a w' β1 ν1 →
        ∃ β' ν', RelB P X (updL t S1) a w' β' ν' ∧ (∀ b, okAt X' (ofL (withA S0 S1)) β1 w' b → okAt X (updL t S1) β' w' b) ∧ (∀ b, okAt X t β w b → okAt X (updL t S1) β' w' b ∧ w'.heap[b]? = w.heap[b]?) ∧ ∀ o ∈ keysL S0, GoesAt (ofL (withA S0 S1)) (updL t S1) β1 β' ν1 ν' o := by
  have hne : ∀ o ∈ keysL S0, o ≠ 29999 ∧ 10000 ≤ o := by
    intro o ho
    have := List.all_eq_true.1 hk4 o ho
    simp only [Bool.and_eq_true, Bool.not_eq_true'] at this
    refine ⟨fun e => ?_, by have := blt_lt this.1; omega⟩
    rw [e] at this
    exact absurd this.2 (by decide)
  have hin : ∀ o ∈ keysL S0, t o = ofL S0 o := fun o ho => allEq_mem hS _ (ofL_mem ho)
  have hst : ∀ o ∈ keysL S0, ofL (withA S0 S0) o = t o := fun o ho => by rw [withA_on (hne o ho).1, hin o ho]
  have hst' : ∀ o, o ∉ keysL S0 → live (ofL (withA S0 S0) o) = false ∧ ver (ofL (withA S0 S0) o) = none := by
    intro o ho
    by_cases e : o = 29999
    · subst e; exact ⟨rfl, rfl⟩
    · rw [withA_on e, ofL_off ho]; exact ⟨rfl, rfl⟩
  have hliv0 : ∀ o, live (ofL (withA S0 S0) o) = true → o ∈ keysL S0 := fun o hl => by
    apply Decidable.byContradiction
    intro hn
    rw [(hst' o hn).1] at hl
    cases hl
  have hOR : ∀ o ∈ keysL S0, OR P (okAt X t β w) w t β ν o (ofL S0 o) := fun o ho => by rw [← hin o ho]; exact hr.obj o
  -- the callee's view
  have hg0 : ∀ o ∈ keysL S0, GoesAt t (ofL (withA S0 S0)) β β ν ν o := fun o ho k hk => ⟨k, by rw [hst o ho]; exact hk, Nat.le_refl _, fun _ hl => ⟨by rw [← hst o ho]; exact hl, rfl, rfl⟩⟩
  obtain ⟨caps, hcaps⟩ := anchor_exist (P := P) (ok := okAt X t β w) (w := w) (st := t) (β := β) (ν := ν) S0 (fun p hp => ⟨allEq_mem hS p hp, by have := hr.obj p.1; rw [allEq_mem hS p hp] at this; exact this⟩)
  let X' : Cx := ⟨a.tmps.size, w, okAt X t β w, fun b => (∃ o ∈ keysL S0, live (t o) = true ∧ β o = some b), Value.func (Fn.func 0) #[] caps.toArray, fun _ => none, a.defers, fun b hb => ⟨hb.2.1, fun h => by obtain ⟨o, ho, hlo, h⟩ := h; exact hb.2.2 o hlo h⟩⟩
  have hlt : ∀ o, live (ofL (withA S0 S0) o) = true → live (t o) = true := fun o hl => by rw [← hst o (hliv0 o hl)]; exact hl
  have hok0 : ∀ b, okAt X t β w b → okAt X' (ofL (withA S0 S0)) β w b := fun b hb => ⟨.inl hb, hb.2.1, fun o hl => hb.2.2 o (hlt o hl)⟩
  have hr0 : RelB P X' (ofL (withA S0 S0)) a w β ν := {
    os := rfl, tape := rfl, output := rfl, drawn := Nat.le_refl _, size := Nat.le_refl _, frame := fun _ _ _ => rfl
    kept := fun _ _ h => by (cases h)
    own := fun o b hl hb => ⟨.inr ⟨o, hliv0 o hl, hlt o hl, hb⟩, (hr.own o b (hlt o hl) hb).2⟩
    inj := fun o o' b hl hl' => hr.inj o o' b (hlt o hl) (hlt o' hl')
    obj := fun o => by
      by_cases ho : o ∈ keysL S0
      · have h1 := hOR o ho
        rw [hst o ho, hin o ho]
        have hmem := closedL_mem hc0 (ofL_mem ho)
        generalize ofL S0 o = x at h1 hmem
        cases x with
        | box u c =>
          obtain ⟨b, cs, ty, g1, g2, g3, g4⟩ := h1
          exact ⟨b, cs, ty, g1, g2, g3, VR_mono' (fun b hb => ⟨hok0 b hb, rfl⟩) (Nat.le_refl _) c (fun o' ho' => hg0 o' (hmem o' ho')) g4⟩
        | arr u e sz by_ f z xs =>
          obtain ⟨cells, g1, g2, g3, g4, g5, g6, g7⟩ := h1
          exact ⟨cells, g1, g2, g3, g4, g5, g6, fun i hi => R_mono _ (fun b hb => ⟨hok0 b hb, rfl⟩) (Nat.le_refl _) (g7 i hi)⟩
        | mp u kv vv m => exact h1
        | tl u e sz by_ f z xs =>
          obtain ⟨g, k, c, off, cells, g1, g2, g3, g4, g5, g6, g7, g8⟩ := h1
          exact ⟨g, k, c, off, cells, g1, g2, g3, g4, g5, g6, g7, fun i hi => R_mono _ (fun b hb => ⟨hok0 b hb, rfl⟩) (Nat.le_refl _) (g8 i hi)⟩
        | _ => trivial
      · exact OR_dead (hst' o ho).1
    slot := fun k hk => by
      have : k ∉ keysL S0 := fun h => by have := (hne k h).2; omega
      rw [withA_on (by omega), ofL_off this]
      exact ⟨_, rfl⟩
    keys := fun k hk => (hst' k (fun h => by have := (hne k h).2; omega)).2
    tmps := rfl, defers := rfl
    anch := fun _ => ⟨caps.toArray, rfl, by
      show VR P _ w _ β ν (anchor S0) caps.toArray.toList
      simp only []
      exact VR_mono' (fun b hb => ⟨hok0 b hb, rfl⟩) (Nat.le_refl _) _ (fun o ho => hg0 o (anchor_ment S0 o ho)) hcaps⟩ }
  have hpos : ∀ b, okAt X t β w b → ¬ X'.bor b := fun b hb ⟨o, ho, hlo, h⟩ => hb.2.2 o hlo h
  refine ⟨X', rfl, rfl, rfl, fun _ => rfl, hr0, hok0, fun b hb => ⟨hb, hpos b hb⟩, hg0, ?_⟩
  intro S1 hdd hc1 hkk hkind w' β1 ν1 hr1
  have hn1 : ∀ o ∈ keysL S0, ofL (withA S0 S1) o = ofL S1 o := fun o ho => withA_on (hne o ho).1
  have hoff1 : ∀ o, o ∉ keysL S0 → live (ofL (withA S0 S1) o) = false := fun o ho => by
    by_cases e : o = 29999
    · subst e; rfl
    · rw [withA_on e, ofL_off (by rw [hkk]; exact ho)]; rfl
  have ht1 : ∀ o ∈ keysL S0, updL t S1 o = ofL S1 o := fun o ho => updL_on (by rw [hkk]; exact ho)
  have ht2 : ∀ o, o ∉ keysL S0 → updL t S1 o = t o := fun o ho => updL_off (by rw [hkk]; exact ho)
  have hgk : ∀ p ∈ S0, GoesAt t (ofL (withA S0 S1)) β β1 ν ν1 p.1 := by
    obtain ⟨caps', he, hc'⟩ := hr1.anch rfl
    have he' : caps' = caps.toArray := by simp only [List.cons.injEq, and_true] at he; cases he; rfl
    subst he'
    refine anchor_goes S0 hcaps (by simpa using hc') (fun p hp => ⟨allEq_mem hS p hp, List.all_eq_true.1 hlv p hp, by have := hr.obj p.1; rw [allEq_mem hS p hp] at this; exact this⟩) (fun p hp u e => by rw [withA_on (hne p.1 (List.mem_map.2 ⟨p, hp, rfl⟩)).1]; exact hdd.mem p hp u e) (fun o => hr1.obj o) (fun p hp h1 h2 => ?_)
    have hk := List.all_eq_true.1 hkind p hp
    rw [withA_on (hne p.1 (List.mem_map.2 ⟨p, hp, rfl⟩)).1] at h2 ⊢
    simpa [h1, h2] using hk
  have hgk' : ∀ o ∈ keysL S0, GoesAt t (ofL (withA S0 S1)) β β1 ν ν1 o := fun o ho => by
    obtain ⟨p, hp, rfl⟩ := List.mem_map.1 ho
    exact hgk p hp
  obtain ⟨β2, hβ2⟩ : ∃ β2 : Nat → Option Nat, β2 = fun o => if o ∈ keysL S0 then β1 o else β o := ⟨_, rfl⟩
  obtain ⟨ν2, hν2⟩ : ∃ ν2 : Nat → Value, ν2 = fun o => if o ∈ keysL S0 then ν1 o else ν o := ⟨_, rfl⟩
  have b1 : ∀ o ∈ keysL S0, β2 o = β1 o ∧ ν2 o = ν1 o := fun o ho => by rw [hβ2, hν2]; simp [ho]
  have b2 : ∀ o, o ∉ keysL S0 → β2 o = β o ∧ ν2 o = ν o := fun o ho => by rw [hβ2, hν2]; simp [ho]
  have hlive1 : ∀ o ∈ keysL S0, live (updL t S1 o) = true → live (ofL (withA S0 S1) o) = true := fun o ho hl => by rw [hn1 o ho, ← ht1 o ho]; exact hl
  have hsz : w.heap.size ≤ w'.heap.size := hr1.size
  have hkeep : ∀ b, b < w.heap.size → ¬ X'.bor b → w'.heap[b]? = w.heap[b]? := fun b h1 h2 => hr1.frame b h1 h2
  have hout : ∀ o, o ∉ keysL S0 → live (t o) = true → ∀ b, β o = some b → b < w.heap.size ∧ ¬ X'.bor b := fun o ho hl b hb => ⟨(hr.own o b hl hb).2, fun ⟨o', ho', hlo, h⟩ => ho (by
    have := hr.inj o o' b hl hlo hb h
    rw [this]; exact ho')⟩
  have hokT : ∀ b, okAt X t β w b → okAt X (updL t S1) β2 w' b ∧ w'.heap[b]? = w.heap[b]? := by
    intro b hb
    refine ⟨⟨hb.1, Nat.lt_of_lt_of_le hb.2.1 hsz, fun o hl h => ?_⟩, hkeep b hb.2.1 (hpos b hb)⟩
    by_cases ho : o ∈ keysL S0
    · rw [(b1 o ho).1] at h
      rcases (hr1.own o b (hlive1 o ho hl) h).1 with h1 | h1
      · exact absurd hb.2.1 (Nat.not_lt.2 h1)
      · exact hpos b hb h1
    · rw [(b2 o ho).1] at h
      rw [ht2 o ho] at hl
      exact hb.2.2 o hl h
  have hgT : Goes t (updL t S1) β β2 ν ν2 := by
    intro o k hk
    by_cases ho : o ∈ keysL S0
    · obtain ⟨k', h1, h2, h3⟩ := hgk' o ho k hk
      refine ⟨k', by rw [ht1 o ho, ← hn1 o ho]; exact h1, h2, fun e hl => ?_⟩
      rw [(b1 o ho).1, (b1 o ho).2]
      exact h3 e (hlive1 o ho hl)
    · exact ⟨k, by rw [ht2 o ho]; exact hk, Nat.le_refl _, fun _ hl => ⟨by rw [← ht2 o ho]; exact hl, (b2 o ho).1, (b2 o ho).2⟩⟩
  have hok1 : ∀ b, okAt X' (ofL (withA S0 S1)) β1 w' b → okAt X (updL t S1) β2 w' b := by
    intro b hb
    refine ⟨?_, hb.2.1, fun o hl h => ?_⟩
    · rcases hb.1 with h1 | h1 | ⟨o, ho, hlo, h1⟩
      · exact h1.1
      · exact .inr (.inl (Nat.le_trans hr.size h1))
      · exact .inr ((hr.own o b hlo h1).1)
    · by_cases ho : o ∈ keysL S0
      · rw [(b1 o ho).1] at h
        exact hb.2.2 o (hlive1 o ho hl) h
      · rw [(b2 o ho).1] at h
        rw [ht2 o ho] at hl
        have := hout o ho hl b h
        rcases hb.1 with h1 | h1 | h1
        · exact h1.2.2 o hl h
        · exact absurd this.1 (Nat.not_lt.2 h1)
        · exact this.2 h1
  have hg1 : ∀ o ∈ keysL S0, GoesAt (ofL (withA S0 S1)) (updL t S1) β1 β2 ν1 ν2 o := fun o ho k hk => ⟨k, by rw [ht1 o ho, ← hn1 o ho]; exact hk, Nat.le_refl _, fun _ hl => ⟨hlive1 o ho hl, (b1 o ho).1, (b1 o ho).2⟩⟩
  refine ⟨β2, ν2, hr.move hr1.os hr1.tape ⟨hr1.output, hr1.drawn⟩ hsz ?_ hokT hgT ?_ ?_ ?_ ?_ ?_ rfl rfl ?_, hok1, hokT, hg1⟩
  · intro b hb hn
    refine hkeep b (Nat.lt_of_lt_of_le hb hr.size) (fun ⟨o, ho, hlo, h⟩ => ?_)
    rcases (hr.own o b hlo h).1 with h1 | h1
    · omega
    · exact hn h1
  · intro o b hl h
    by_cases ho : o ∈ keysL S0
    · rw [(b1 o ho).1] at h
      have h2 := hr1.own o b (hlive1 o ho hl) h
      right
      refine ⟨?_, h2.2⟩
      rcases h2.1 with h1 | ⟨o', ho', hlo, h1⟩
      · exact .inl (Nat.le_trans hr.size h1)
      · exact (hr.own o' b hlo h1).1
    · rw [(b2 o ho).1] at h
      rw [ht2 o ho] at hl
      exact .inl ⟨hl, h⟩
  · intro o o' b hl hl' h h'
    by_cases ho : o ∈ keysL S0
    · by_cases ho' : o' ∈ keysL S0
      · rw [(b1 o ho).1] at h
        rw [(b1 o' ho').1] at h'
        exact hr1.inj o o' b (hlive1 o ho hl) (hlive1 o' ho' hl') h h'
      · rw [(b1 o ho).1] at h
        rw [(b2 o' ho').1] at h'
        rw [ht2 o' ho'] at hl'
        have h3 := hout o' ho' hl' b h'
        rcases (hr1.own o b (hlive1 o ho hl) h).1 with h1 | h1
        · exact absurd h3.1 (Nat.not_lt.2 h1)
        · exact absurd h1 h3.2
    · by_cases ho' : o' ∈ keysL S0
      · rw [(b2 o ho).1] at h
        rw [(b1 o' ho').1] at h'
        rw [ht2 o ho] at hl
        have h3 := hout o ho hl b h
        rcases (hr1.own o' b (hlive1 o' ho' hl') h').1 with h1 | h1
        · exact absurd h3.1 (Nat.not_lt.2 h1)
        · exact absurd h1 h3.2
      · rw [(b2 o ho).1] at h
        rw [(b2 o' ho').1] at h'
        rw [ht2 o ho] at hl
        rw [ht2 o' ho'] at hl'
        exact hr.inj o o' b hl hl' h h'
  · intro o hl
    by_cases ho : o ∈ keysL S0
    · right
      have h1 := hr1.obj o
      rw [hn1 o ho] at h1
      rw [ht1 o ho]
      have hmem : ∀ o' ∈ ment (ofL S1 o), o' ∈ keysL S0 := fun o' ho' => by rw [← hkk]; exact closedL_mem hc1 (ofL_mem (by rw [hkk]; exact ho)) o' ho'
      generalize ofL S1 o = x at h1 hmem
      cases x with
      | box u c =>
        obtain ⟨b, cs, ty, g1, g2, g3, g4⟩ := h1
        exact ⟨b, cs, ty, by rw [(b1 o ho).1]; exact g1, g2, g3, VR_mono' (fun b hb => ⟨hok1 b hb, rfl⟩) (Nat.le_refl _) c (fun o' ho' => hg1 o' (hmem o' ho')) g4⟩
      | arr u e sz by_ f z xs =>
        obtain ⟨cells, g1, g2, g3, g4, g5, g6, g7⟩ := h1
        exact ⟨cells, by rw [(b1 o ho).2]; exact g1, by rw [(b1 o ho).1, (b1 o ho).2]; exact g2, g3, g4, g5, g6, fun i hi => R_mono _ (fun b hb => ⟨hok1 b hb, rfl⟩) (Nat.le_refl _) (g7 i hi)⟩
      | mp u kv vv m =>
        obtain ⟨b, es, cl, g1, g2, g3, g4⟩ := h1
        exact ⟨b, es, cl, by rw [(b1 o ho).2]; exact g1, by rw [(b1 o ho).1]; exact g2, g3, g4⟩
      | tl u e sz by_ f z xs =>
        obtain ⟨g, k, c, off, cells, g1, g2, g3, g4, g5, g6, g7, g8⟩ := h1
        exact ⟨g, k, c, off, cells, g1, by rw [(b1 o ho).2]; exact g2, by rw [(b1 o ho).1]; exact g3, g4, g5, g6, g7, fun i hi => R_mono _ (fun b hb => ⟨hok1 b hb, rfl⟩) (Nat.le_refl _) (g8 i hi)⟩
      | _ => trivial
    · left
      rw [ht2 o ho] at hl
      exact ⟨ht2 o ho, (b2 o ho).1, (b2 o ho).2, fun b hb => by have := hout o ho hl b hb; exact hkeep b this.1 this.2⟩
  · intro k hk
    left
    exact ⟨ht2 k (fun h => by have := (hne k h).2; omega), rfl⟩
  · intro k hk
    rw [ht2 k (fun h => by have := (hne k h).2; omega)]
    exact hr.keys k hk
  · intro _
    left
    exact ht2 29999 (fun h => (hne _ h).1 rfl)
theorem callB_rel {X : Cx} {t : St} {a : Act} {w : World} {β : Nat → Option Nat} {ν : Nat → Value} (hr : RelB P X t a w β ν) {f : FuncId} {args : List AV} {vs : List Value} {S0 S1 : List (Nat × AV)} {r : D}
    (hS : allEq t S0) (hlv : S0.all (fun p => anc p.2) = true) (hc0 : closedL S0 = true) (hc1 : closedL S1 = true) (hkk : keysL S1 = keysL S0) (hk4 : (keysL S0).all (fun k => Nat.blt 9999 k && !Nat.beq k 29999) = true)
    (hkind : S0.all (fun p => !isArr p.2 || !live (ofL S1 p.1) || isArr (ofL S1 p.1)) = true)
    (hargs : ArgsV P (okAt X t β w) w t β ν args vs) (hm : args.all (fun y => (ment y).all (fun o => (keysL S0).contains o)) = true) (hs : SpecB P f args S0 r S1) :
    Calls P f vs.toArray w (fun e w' => ∃ v β' ν', e = .returned v ∧ RelB P X (updL t S1) a w' β' ν' ∧ RV P r (okAt X (updL t S1) β' w') w' v) := by
  obtain ⟨X', _, hXw, _, _, hr0, hok0, _, hg0, hback⟩ := callB_core hr hS (anc_D hlv) hc0 hk4
  subst hXw
  have hargs0 : ArgsV P (okAt X' (ofL (withA S0 S0)) β X'.w0) X'.w0 (ofL (withA S0 S0)) β ν args vs := ArgsV_mono hok0 (fun y hy o ho => by
    have := List.all_eq_true.1 (List.all_eq_true.1 hm y hy) o ho
    exact hg0 o (by simpa using this)) hargs
  refine (hs X' a β ν vs hr0 hargs0).mono ?_
  rintro e w' ⟨v, β1, ν1, rfl, hr1, hv⟩
  obtain ⟨β', ν', h1, h2, _, _⟩ := hback S1 (DeadOk.none hlv) hc1 hkk hkind w' β1 ν1 hr1
  exact ⟨v, β', ν', rfl, h1, RV_mono (fun b hb => ⟨h2 b hb, rfl⟩) (Nat.le_refl _) hv⟩

def VArgs (s : St) : List Operand → List AV → Prop
  | [], ys => ys = []
  | x :: xs, ys => ∃ y ys', ys = y :: ys' ∧ Sees (ev s x) y ∧ VArgs s xs ys'

def chainL : List AV → AV
  | [] => .cnil
  | x :: l => .ccons x (chainL l)

section
variable {n : Nat} {ops : Array Oper} {s : St} {o : Oper}

theorem VArgs.args {X : Cx} {t : St} {a : Act} {w : World} {β : Nat → Option Nat} {ν : Nat → Value} (hr : RelB P X t a w β ν) : ∀ {xs : List Operand} {ys : List AV}, (∀ k ∈ kxl xs, t k = s k) → VArgs s xs ys → ArgsV P (okAt X t β w) w t β ν ys (xs.map a.eval)
  | [], ys, _, h => by simp only [VArgs] at h; subst h; rfl
  | x :: xs, ys, hk, h => by
    obtain ⟨y, ys', rfl, h1, h2⟩ := h
    exact ⟨a.eval x, xs.map a.eval, rfl, hr.sees (fun k hk' => hk k (by simp [kxl, hk'])) h1, VArgs.args hr (fun k hk' => hk k (by simp [kxl, hk'])) h2⟩

theorem allEq_of {s t : St} : ∀ {l : List (Nat × AV)}, (∀ k ∈ keysL l, t k = s k) → allEq s l → allEq t l
  | [], _, _ => trivial
  | (k, x) :: l, hk, h => ⟨by rw [hk k (by simp [keysL])]; exact h.1, allEq_of (fun j hj => hk j (by simp only [keysL, List.map_cons, List.mem_cons]; exact .inr hj)) h.2⟩

theorem ovr_L {t : St} {d : Nat} {y : AV} {S1 : List (Nat × AV)} : ovr t (d :: keysL S1) (upd (updL s S1) d y) = upd (updL t S1) d y := by
  funext k
  simp only [ovr]
  by_cases e : k = d
  · subst e; simp [upd_same]
  · rw [upd_ne _ _ e, upd_ne _ _ e]
    by_cases hk : k ∈ keysL S1
    · rw [if_pos (List.mem_cons_of_mem _ hk), updL_on hk, updL_on hk]
    · rw [if_neg (by simp [e, hk]), updL_off hk]
def okB (args : List AV) (S0 S1 : List (Nat × AV)) : Bool :=
  S0.all (fun p => anc p.2) && (closedL S0 && (closedL S1 && ((keysL S0).all (fun k => Nat.blt 9999 k && !Nat.beq k 29999) && (S0.all (fun p => !isArr p.2 || !live (ofL S1 p.1) || isArr (ofL S1 p.1)) && args.all (fun y => (ment y).all (fun o => (keysL S0).contains o))))))

theorem r_callB {f : FuncId} {xs : List Operand} {T : Array TypeId} {ys : List AV} {S0 S1 : List (Nat × AV)} {r : D} {d : Nat} (ho : o.op = .call { callee := .value (.func f), args := xs.toArray, argTypes := T }) (hf : IsFn P f) (hs : SpecB P f ys S0 r S1) (hx : VArgs s xs ys) (hS : allEq s S0)
    (hkk : keysL S1 = keysL S0) (hok : okB ys S0 S1 = true) (hd : o.dst = some d) (hg : o.guard = none) (hn : Nat.blt d n = true) (h4 : Nat.blt d 10000 = true) :
    LStep P n ops o (kxl xs ++ keysL S0, d :: keysL S1) s (upd (updL s S1) d (.val r)) := by
  simp only [okB, Bool.and_eq_true] at hok
  refine ⟨fun k hk => ?_, fun X t a w hX hk hr Q => ?_⟩
  · simp only [List.mem_cons, not_or] at hk
    rw [upd_ne _ _ hk.1, updL_off hk.2]
  · obtain ⟨β, ν, hr⟩ := hr
    have hrun : (execOp a.eval o).run P w = .ok (.enter f (xs.map a.eval).toArray) w := by
      simp [execOp, ho, resolve, Act.eval, Deferred.ofValue, invoke, run_callFunc hf]
    unfold opWp
    rw [if_pos (by simp [Region.wanted, hg])]
    left
    unfold Oper.wp
    rw [hrun]
    refine (callB_rel hr (allEq_of (kr hk) hS) hok.1 hok.2.1 hok.2.2.1 hkk hok.2.2.2.1 hok.2.2.2.2.1 (VArgs.args hr (kl hk) hx) hok.2.2.2.2.2 hs).mono ?_
    rintro e w' ⟨v, β', ν', rfl, hr', hv⟩
    show Rel P X (ovr t (d :: keysL S1) _) (a.put o.dst v) w'
    rw [ovr_L, hd]
    exact ⟨β', ν', hr'.put (by rw [hX]; exact blt_lt hn) (blt_lt h4) rfl ⟨v, rfl, hv⟩⟩

end

theorem resB_none {fn : Func} {s : St} (hf : fn.results = #[]) : ResB P fn s (.tup .nil) := by
  intro X a w β ν hr
  refine ⟨.tuple #[], ?_, rfl, #[], rfl, rfl⟩
  rw [results_eq, hf]
  simp

theorem resB_tmp {fn : Func} {s : St} {t : Nat} {d : D} (hf : fn.results = #[.tmp t]) (ht : Nat.blt t 10000 = true) (h : Sees (s t) (.val d)) : ResB P fn s d := by
  intro X a w β ν hr
  obtain ⟨v, e, hv⟩ := h _ _ _ _ _ _ _ (hr.slot t (blt_lt ht))
  simp only [List.cons.injEq, and_true] at e
  have h1 : (runRes a.tmps (.tmp t)).run P w = .ok v w := by simp only [runRes, e]; rfl
  refine ⟨v, ?_, hv⟩
  rw [results_eq, hf]
  simp [h1]

theorem resB_eq {fn : Func} {s : St} {r r' : D} (h : ResB P fn s r) (e : r = r') : ResB P fn s r' := e ▸ h
theorem endsB_ret {fn : Func} {S0 S1 : List (Nat × AV)} {s : St} {r : D} (h : ResB P fn s r) (h1 : allEq s (withA S0 S1)) (h2 : closedL (withA S0 S1) = true) : EndsB P fn S0 r S1 .ret s := ⟨.inl rfl, h, h1, h2⟩
theorem endsB_end {fn : Func} {S0 S1 : List (Nat × AV)} {s : St} {r : D} (h : ResB P fn s r) (h1 : allEq s (withA S0 S1)) (h2 : closedL (withA S0 S1) = true) : EndsB P fn S0 r S1 .normal s := ⟨.inr rfl, h, h1, h2⟩

end
end Go.Um
