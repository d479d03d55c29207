/- The library's sorts, by the kit's contracts, as contracts over a row of the caller's own. No condition. -/
import Derived.Test.YtfjafkocejoigaaGreatRange
import Derived.Shelf.SlSortCmp.NoneTotal
import Derived.Shelf.SortM.Plain
import Derived.Shelf.SortM.SortNone
namespace Go.Um
open Go Go.RowKit

theorem putRow_heap {α : Type} [Inhabited α] (enc : α → Value) (w : World) (g : Nat) (d : Array α) {cur : Array Value} {e : TypeId} {fr : Nat × Nat} (hh : w.heap[g]? = some (.cells cur e fr)) : (Sort.putRow enc w g 0 d).heap[g]? = some (.cells (Sort.putCells enc 0 d cur) e fr) := by
  unfold Sort.putRow Sort.mapBlock
  simp only [Array.getElem?_modify, if_true, hh, Option.map_some]
  rfl
theorem putRow_other {α : Type} [Inhabited α] (enc : α → Value) (w : World) (g b : Nat) (d : Array α) (h : b ≠ g) : (Sort.putRow enc w g 0 d).heap[b]? = w.heap[b]? := by
  unfold Sort.putRow Sort.mapBlock
  simp only [Array.getElem?_modify, if_neg (Ne.symm h)]
theorem putRow_size {α : Type} [Inhabited α] (enc : α → Value) (w : World) (g : Nat) (d : Array α) : (Sort.putRow enc w g 0 d).heap.size = w.heap.size := by
  unfold Sort.putRow Sort.mapBlock
  simp

theorem putCells_take {α : Type} [Inhabited α] (enc : α → Value) (d : Array α) (cur : Array Value) (h : d.size ≤ cur.size) : (Sort.putCells enc 0 d cur).toList.take d.size = (List.range d.size).map (fun j => enc d[j]!) := by
  apply List.ext_getElem?
  intro i
  simp only [List.getElem?_take, List.getElem?_map]
  split
  · rename_i hi
    have : i < cur.size := by omega
    simp [Sort.putCells, hi, this]
  · rename_i hi
    simp [hi]
theorem RelB.sorted {P : Program} {X : Cx} {t : St} {a : Act} {w : World} {β : Nat → Option Nat} {ν : Nat → Value} (hr : RelB P X t a w β ν) {o1 u e by_ g cap : Nat} {α γ : Type} [Inhabited γ] {f : α → D} {z : α} {xs xs' : List α} {cur : Array Value} (h4 : 10000 ≤ o1) (hb : t o1 = .arr u e 1 by_ f z xs)
    (hν : ν o1 = .slice (some ⟨g, 0, none⟩) xs.length cap) (hβ : β o1 = some g) (hh : w.heap[g]? = some (.cells cur e (0, 0))) (hsz : cur.size = cap * 1) (hcap : xs.length ≤ cap) (hcm : cap ≤ maxLen) (hby : xs.length * by_ ≤ 140737488355328) (hlim : xs.length ≤ 140737488355328)
    (enc : γ → Value) (d : Array γ) (hd : d.size = xs.length) (hl : xs'.length = xs.length) (h1 : ∀ j, j < d.size → (enc d[j]!).oneCell' = true) (hR : ∀ i (h : i < xs'.length), R P (f xs'[i]) (okAt X t β w) w [enc d[i]!]) (n : Nat) (os : Array Obj) :
    RelB P X (upd t o1 (.arr u e 1 by_ f z xs')) a (Sort.grow (Sort.putRow enc (Sort.ahead w n) g 0 d) os) β ν := by
  have hcs : (Sort.putCells enc 0 d cur).size = cap * 1 := by simp [Sort.putCells, hsz]
  have htk : (Sort.putCells enc 0 d cur).toList.take (xs.length * 1) = (List.range xs.length).map (fun j => enc d[j]!) := by
    rw [Nat.mul_one, ← hd]
    exact putCells_take enc d cur (by omega)
  have h := hr.setRow (cur' := Sort.putCells enc 0 d cur) (xs' := xs') h4 hb hν hβ hh hcs hcap hcm (by decide) hby hlim hl htk (fun c hc => by
    obtain ⟨j, hj, rfl⟩ := List.mem_map.1 hc
    exact h1 j (by rw [hd]; exact List.mem_range.1 hj)) (fun i hi => by
    have : (((List.range xs.length).map (fun j => enc d[j]!)).drop (i * 1)).take 1 = [enc d[i]!] := by
      rw [Nat.mul_one, List.drop_eq_getElem_cons (by simp; omega)]
      simp only [List.getElem_map, List.getElem_range]
      rfl
    rw [this]
    exact hR i hi)
  refine h.below ⟨⟨rfl, rfl, rfl, ?_, ?_⟩, ?_⟩
  · show _ ≤ (Sort.grow _ os).heap.size
    simp only [Sort.grow, Array.size_append, putRow_size]
    show (w.setRow g (Sort.putCells enc 0 d cur)).heap.size ≤ w.heap.size + os.size
    simp
  · intro k hk
    have hk' : k < w.heap.size := by simpa using hk
    have e0 : (Sort.grow (Sort.putRow enc (Sort.ahead w n) g 0 d) os).heap[k]? = (Sort.putRow enc (Sort.ahead w n) g 0 d).heap[k]? := by
      simp only [Sort.grow]
      rw [Array.getElem?_append_left (by rw [putRow_size]; exact hk')]
    rw [e0]
    by_cases e1 : k = g
    · subst e1
      rw [putRow_heap enc (Sort.ahead w n) k d (cur := cur) (e := e) (fr := (0, 0)) hh, setRow_heap w k cur _ e _ hh]
    · rw [putRow_other enc _ g k d e1, setRow_other w g k _ e1]
      rfl
  · show w.drawn ≤ w.drawn + n
    omega

theorem one_int {P : Program} {ok : Nat → Prop} {w : World} {x : Int} {v : Value} (h : R P (di x) ok w [v]) : v = .int .i64 x := by
  simp only [R, List.cons.injEq, and_true] at h
  exact h
theorem row_open {P : Program} {X : Cx} {t : St} {a : Act} {w : World} {β : Nat → Option Nat} {ν : Nat → Value} (hr : RelB P X t a w β ν) {o1 u e by_ : Nat} {α : Type} {f : α → D} {z : α} {xs : List α} (hb : t o1 = .arr u e 1 by_ f z xs) {v : Value} (hv : VR P (okAt X t β w) w t β ν (.row o1 u) [v]) :
    v = ν o1 ∧ xs.length * by_ ≤ 140737488355328 ∧ xs.length ≤ 140737488355328 ∧ ((v = .slice none 0 0 ∧ xs = []) ∨ ∃ g cap cur, v = .slice (some ⟨g, 0, none⟩) xs.length cap ∧ β o1 = some g ∧ w.heap[g]? = some (.cells cur e (0, 0)) ∧ xs.length ≤ cap ∧ cap ≤ maxLen ∧ cur.size = cap * 1 ∧
      ∀ i (h : i < xs.length), ∃ c, w.cell? ⟨g, 0 + i, none⟩ = some c ∧ w.frozen? ⟨g, 0 + i, none⟩ = false ∧ c.oneCell' = true ∧ R P (f xs[i]) (okAt X t β w) w [c]) := by
  obtain ⟨v', k, e1, h1, h2, h3⟩ := hv
  simp only [List.cons.injEq, and_true] at e1
  subst e1
  rw [hb] at h1
  simp only [ver, Option.some.injEq] at h1
  have hvv := h3 h1 (by rw [hb]; rfl)
  have ho := hr.obj o1
  rw [hb] at ho
  obtain ⟨cells, g1, g2, _, g4, g5, g6, g7⟩ := ho
  rw [← hvv] at g1 g2
  refine ⟨hvv, g4, g5, ?_⟩
  obtain ⟨k1, k2⟩ := g1
  rcases k2 with ⟨k2, k3⟩ | ⟨g, cap, cur, k2, _, k4, k5, k6, k7, k8⟩
  · exact .inl ⟨k2, List.eq_nil_of_length_eq_zero k3⟩
  · right
    refine ⟨g, cap, cur, k2, by rw [g2, k2]; rfl, k4, k5, k6, k7, fun i hi => ?_⟩
    have hlt : i < cells.length := by omega
    have hcur : cur[i]? = some cells[i] := by
      have : (cur.toList.take (xs.length * 1))[i]? = some cells[i] := by rw [k8]; exact List.getElem?_eq_getElem hlt
      rw [List.getElem?_take, if_pos (by omega)] at this
      simpa using this
    refine ⟨cells[i], ?_, ?_, g6 _ (List.getElem_mem hlt), ?_⟩
    · simp [World.cell?, k4, hcur]
    · simp [World.frozen?, k4]
    · have := g7 i hi
      have e2 : (cells.drop (i * 1)).take 1 = [cells[i]] := by
        rw [Nat.mul_one, List.drop_eq_getElem_cons hlt]
        rfl
      rw [e2] at this
      exact this

theorem withA_upd {o1 : Nat} {x y : AV} (h : o1 ≠ 29999) : upd (ofL (withA [(o1, x)] [(o1, x)])) o1 y = ofL (withA [(o1, x)] [(o1, y)]) := by
  funext k
  by_cases e : k = o1
  · subst e
    rw [upd_same, withA_on h]
    simp [ofL]
  · rw [upd_ne _ _ e]
    by_cases e2 : k = 29999
    · subst e2; rfl
    · rw [withA_on e2, withA_on e2]
      have hb : Nat.beq k o1 = false := by
        cases hb : Nat.beq k o1
        · rfl
        · exact absurd (Nat.eq_of_beq_eq_true hb) e
      simp [ofL, hb]

theorem sortI_spec {P : Program} {ρ : Go.Shelf.Ren} (L : Go.Proofs.SlLaysM.n5 P ρ) (u e by_ : Nat) (xs : List Int) :
    SpecB P (ρ.f 5) [.row 30000 u] [(30000, .arr u e 1 by_ di 0 xs)] (.tup .nil) [(30000, .arr u e 1 by_ di 0 (xs.mergeSort fun x y => decide (x ≤ y)))] := by
  intro X a β ν vs hr hargs
  obtain ⟨v, vs', rfl, hv, rfl⟩ := hargs
  have hb : ofL (withA [(30000, AV.arr u e 1 by_ di 0 xs)] [(30000, AV.arr u e 1 by_ di 0 xs)]) 30000 = .arr u e 1 by_ di 0 xs := rfl
  have htup : ∀ (s : St) (β' : Nat → Option Nat) (w' : World), RV P (.tup .nil) (okAt X s β' w') w' (.tuple #[]) := fun s β' w' => ⟨rfl, #[], rfl, rfl⟩
  obtain ⟨h1, h2, h3, h4⟩ := row_open hr hb hv
  rcases h4 with ⟨rfl, rfl⟩ | ⟨g, cap, cur, rfl, hβ, hh, k1, k2, k3, k4⟩
  · refine (Go.Proofs.AnyM.slices_Sort_int_none L none 0 X.w0).mono ?_
    rintro e' w' ⟨rfl, rfl⟩
    exact ⟨_, β, ν, rfl, by simpa using hr, htup _ _ _⟩
  · have hH : Sort.Holds (Value.int .i64) X.w0 g 0 xs.toArray := by
      intro j hj
      have hj' : j < xs.length := by simpa using hj
      obtain ⟨c, c1, c2, _, c4⟩ := k4 j hj'
      have := one_int c4
      subst this
      refine ⟨?_, c2⟩
      rw [c1]
      simp [hj']
    have hlt : g < X.w0.heap.size := (Array.getElem?_eq_some_iff.1 hh).1
    refine (Go.Proofs.AnyM.slices_Sort_int L g 0 cap xs X.w0 hH hlt (by omega)).mono ?_
    rintro e' w' ⟨rfl, n, os, rfl⟩
    have hlen : (xs.mergeSort fun x y => decide (x ≤ y)).length = xs.length := List.length_mergeSort _
    have hs := hr.sorted (xs' := xs.mergeSort fun x y => decide (x ≤ y)) (by decide) hb h1.symm hβ hh k3 k1 k2 h2 h3 (Value.int .i64) (xs.mergeSort fun x y => decide (x ≤ y)).toArray (by simp) hlen (fun j _ => rfl) (fun i hi => by
      simp [R]
      rw [List.getElem?_eq_getElem hi]
      rfl) n os
    rw [withA_upd (by decide)] at hs
    exact ⟨_, β, ν, rfl, hs, htup _ _ _⟩
abbrev cmpD {α : Type} (V : α → Prop) (f : α → D) (cf : α → α → Int) : D := .fn (α := { p : α × α // V p.1 ∧ V p.2 }) (fun p => .cons (f p.1.1) (.cons (f p.1.2) .nil)) (fun p => .int .i64 (cf p.1.1 p.1.2))

theorem grow_of_belw {w w' : World} (h : Belw w.heap.size w w') : ∃ q os, w' = Sort.grow (w.drewN q) os := by
  refine ⟨w'.drawn - w.drawn, w'.heap.extract w.heap.size w'.heap.size, ?_⟩
  have hd := h.drawn
  have hs := h.size
  have hh : w'.heap = w.heap ++ w'.heap.extract w.heap.size w'.heap.size := by
    apply Array.ext_getElem?
    intro i
    by_cases hi : i < w.heap.size
    · rw [Array.getElem?_append_left hi]
      exact h.block i hi
    · rw [Array.getElem?_append_right (by omega)]
      by_cases hi2 : i < w'.heap.size
      · rw [Array.getElem?_eq_getElem hi2, Array.getElem?_eq_getElem (by simp; omega)]
        simp only [Array.getElem_extract, Option.some.injEq]
        congr 1
        omega
      · rw [Array.getElem?_eq_none (by omega), Array.getElem?_eq_none (by simp; omega)]
  obtain ⟨wh, wt, wd', wo, wu⟩ := w
  obtain ⟨vh, vt, vd, vo, vu⟩ := w'
  have e1 := h.os; have e2 := h.tape; have e3 := h.output
  simp only at e1 e2 e3 hd hh
  subst e1 e2 e3
  simp only [Sort.grow, World.drewN, World.mk.injEq]
  refine ⟨hh, trivial, ?_, trivial, trivial⟩
  omega

theorem fn_val {v : Value} {F : FuncId} {caps : Array Value} (h1 : vAgg v = false) (h2 : v.cells.toList = [.func (.func F) #[] caps]) : v = .func (.func F) #[] caps := by
  cases v <;> simp_all [Value.cells, vAgg]

theorem one_cells {c : Value} (h : c.oneCell' = true) : c.cells.toList = [c] ∧ vAgg c = false := by
  cases c <;> simp_all [Value.oneCell', Value.cells, vAgg]

theorem sortF_spec {P : Program} {ρ : Go.Shelf.Ren} (L : Go.Proofs.SlLaysF.n6 P ρ) {α : Type} (f : α → D) (z : α) (V : α → Prop) (cf : α → α → Int) (hone : ∀ x, (f x).isAgg = false) (hO : Sort.SWO (Go.Proofs.ltOf cf)) (hT : ∀ x y, Go.Proofs.ltOf cf x y = false → Go.Proofs.ltOf cf y x = false → x = y) (u e by_ : Nat) (xs : List α) (hV : ∀ x ∈ xs, V x) :
    SpecB P (ρ.f 6) [.row 30000 u, .val (cmpD V f cf)] [(30000, .arr u e 1 by_ f z xs)] (.tup .nil) [(30000, .arr u e 1 by_ f z (xs.mergeSort fun x y => !Go.Proofs.ltOf cf y x))] := by
  intro X a β ν vs hr hargs
  obtain ⟨v, vs', rfl, hv, v2, vs2, rfl, hv2, rfl⟩ := hargs
  have hb : ofL (withA [(30000, AV.arr u e 1 by_ f z xs)] [(30000, AV.arr u e 1 by_ f z xs)]) 30000 = .arr u e 1 by_ f z xs := rfl
  have htup : ∀ (s : St) (β' : Nat → Option Nat) (w' : World), RV P (.tup .nil) (okAt X s β' w') w' (.tuple #[]) := fun s β' w' => ⟨rfl, #[], rfl, rfl⟩
  obtain ⟨h1, h2, h3, h4⟩ := row_open hr hb hv
  obtain ⟨v2', e2, hv2a, F, caps, hv2b, hF, hfn⟩ := hv2
  simp only [List.cons.injEq, and_true] at e2
  subst e2
  have hval : v2 = .func (.func F) #[] caps := fn_val hv2a hv2b
  subst hval
  rcases h4 with ⟨rfl, rfl⟩ | ⟨g, cap, cur, rfl, hβ, hh, k1, k2, k3, k4⟩
  · refine (Go.Proofs.AnyF.slices_SortFunc_none (P := P) (ρ := ρ) { L with } none 0 _ X.w0).mono ?_
    rintro e' w' ⟨rfl, rfl⟩
    exact ⟨_, β, ν, rfl, by simpa using hr, htup _ _ _⟩
  · obtain ⟨okp, hokp⟩ : ∃ okp, okp = okAt X (ofL (withA [(30000, AV.arr u e 1 by_ f z xs)] [(30000, AV.arr u e 1 by_ f z xs)])) β X.w0 := ⟨_, rfl⟩
    rw [← hokp] at k4 hfn
    have hlt : g < X.w0.heap.size := (Array.getElem?_eq_some_iff.1 hh).1
    by_cases hxs : xs = []
    · subst hxs
      refine (Go.Proofs.AnyF.slices_SortFunc_none (P := P) (ρ := ρ) { L with } (some ⟨g, 0, none⟩) cap _ X.w0).mono ?_
      rintro e' w' ⟨rfl, rfl⟩
      exact ⟨_, β, ν, rfl, by simpa using hr, htup _ _ _⟩
    have hokg : ∀ b, okp b → b ≠ g ∧ b < X.w0.heap.size := fun b hb' => by
      rw [hokp] at hb'
      exact ⟨fun e => hb'.2.2 30000 rfl (by rw [e]; exact hβ), hb'.2.1⟩
    let γ := { q : Value × α // R P (f q.2) okp X.w0 [q.1] ∧ q.1.oneCell' = true ∧ V q.2 }
    let mkd : Fin xs.length → γ := fun i => ⟨(Classical.choose (k4 i.1 i.2), xs[i.1]), (Classical.choose_spec (k4 i.1 i.2)).2.2.2, (Classical.choose_spec (k4 i.1 i.2)).2.2.1, hV _ (List.getElem_mem i.2)⟩
    have hpos : 0 < xs.length := List.length_pos_iff.2 hxs
    haveI : Inhabited γ := ⟨mkd ⟨0, hpos⟩⟩
    haveI : Inhabited α := ⟨z⟩
    let enc : γ → Value := fun q => q.1.1
    let cg : γ → γ → Int := fun x y => cf x.1.2 y.1.2
    let d : Array γ := Array.ofFn mkd
    have hd : d.size = xs.length := by simp [d]
    have hdj : ∀ j (h : j < xs.length), d[j]! = mkd ⟨j, h⟩ := fun j h => by simp [d, h]
    have hH : Sort.Holds enc X.w0 g 0 d := by
      intro j hj
      rw [hd] at hj
      rw [hdj j hj]
      exact ⟨(Classical.choose_spec (k4 j hj)).1, (Classical.choose_spec (k4 j hj)).2.1⟩
    have hOg : Sort.SWO (Go.Proofs.ltOf cg) := ⟨fun x => hO.irrefl _, fun x y q => hO.trans _ _ _, fun x y q => hO.ntrans _ _ _⟩
    have hcmp : Go.Proofs.CmpLays1 P F caps enc cg g 0 d.size X.w0 := by
      intro m os dk hdk x y
      have hWs : X.w0.heap.size ≤ (Go.Proofs.sortWorld enc X.w0 g 0 m dk os).heap.size := by
        simp only [Go.Proofs.sortWorld, Sort.grow, Array.size_append, putRow_size]
        show X.w0.heap.size ≤ X.w0.heap.size + os.size
        omega
      have hWb : ∀ b, okp b → (Go.Proofs.sortWorld enc X.w0 g 0 m dk os).heap[b]? = X.w0.heap[b]? := fun b hb' => by
        obtain ⟨c1, c2⟩ := hokg b hb'
        simp only [Go.Proofs.sortWorld, Sort.grow]
        rw [Array.getElem?_append_left (by rw [putRow_size]; exact c2), putRow_other enc _ g b dk c1]
        rfl
      obtain ⟨W, hW⟩ : ∃ W, Go.Proofs.sortWorld enc X.w0 g 0 m dk os = W := ⟨_, rfl⟩
      rw [hW] at hWs hWb ⊢
      have hRx : ∀ q : γ, vAgg (enc q) = (f q.1.2).isAgg ∧ R P (f q.1.2) okp W (enc q).cells.toList := fun q => by
        obtain ⟨c1, c2⟩ := one_cells q.2.2.1
        refine ⟨by rw [hone]; exact c2, ?_⟩
        show R P (f q.1.2) okp W (q.1.1).cells.toList
        rw [c1]
        exact R_mono _ (fun b hb' => ⟨hb', hWb b hb'⟩) hWs q.2.1
      have hcall := hfn ⟨(x.1.2, y.1.2), x.2.2.2, y.2.2.2⟩ W okp [enc x, enc y] (fun b hb' _ => hWb b hb') hWs (fun b hb' => Nat.lt_of_lt_of_le (hokg b hb').2 hWs) ⟨_, _, rfl, (hRx x).1, (hRx x).2, _, _, rfl, (hRx y).1, (hRx y).2, rfl⟩
      refine hcall.mono ?_
      rintro e' w' ⟨v, rfl, c1, c2, c3⟩
      have hvv : v = .int .i64 (cg x y) := val_one.1 _ _ ⟨c1, c2⟩
      subst hvv
      exact ⟨rfl, grow_of_belw c3⟩
    have hcl := Go.Proofs.Any.slices_SortFunc (P := P) (ρ := ρ) L enc (fun q => q.2.2.1) cg hOg F caps g 0 cap d X.w0 (run_callFunc hF) hcmp hH hlt (by rw [hd]; omega)
    rw [hd] at hcl
    refine hcl.mono ?_
    rintro e' w' ⟨rfl, d', n, os, hperm, hsort, rfl⟩
    obtain ⟨p1, p2, p3⟩ := hperm
    have hd' : d'.size = xs.length := p1.trans hd
    have q1 : d'.extract 0 xs.length = d' := by rw [← hd']; simp
    have q2 : d.extract 0 xs.length = d := by rw [← hd]; simp
    rw [q1, q2] at p3
    have hdx : d.toList.map (fun q => q.1.2) = xs := by
      apply List.ext_getElem (by simp [d])
      intro i h1' h2'
      simp [d, mkd]
    obtain ⟨ys, hys⟩ : ∃ ys, d'.toList.map (fun q => q.1.2) = ys := ⟨_, rfl⟩
    have hyp : ys.Perm xs := by rw [← hys, ← hdx]; exact p3.map _
    have hyl : ys.length = xs.length := hyp.length_eq
    have hyi : ∀ i (h : i < ys.length), ys[i] = (d'[i]!).1.2 := fun i h => by
      subst hys
      have : i < d'.size := by simpa using h
      simp [this]
    have huniq : ys = xs.mergeSort fun x y => !Go.Proofs.ltOf cf y x := by
      have := Sort.sorted_unique_holds hO hT xs.toArray ys.toArray ⟨by simp [hyl], fun i hi => ?_, ?_⟩ ?_
      · simpa using this
      · rcases hi with hi | hi
        · omega
        · have h1' : xs.length ≤ i := by simpa using hi
          have h2' : ys.length ≤ i := by omega
          rw [getElem!_neg _ i (by simpa using h2'), getElem!_neg _ i (by simpa using h1')]
      · have e1 : ys.toArray.extract 0 xs.toArray.size = ys.toArray := by simp [← hyl]
        have e2 : xs.toArray.extract 0 xs.toArray.size = xs.toArray := by simp
        rw [e1, e2]
        exact hyp
      · intro i j _ hij hj
        have hj' : j < xs.length := by simpa using hj
        have := hsort i j (Nat.zero_le _) hij hj'
        rw [getElem!_pos _ i (by simp; omega), getElem!_pos _ j (by simp; omega)]
        simp only [List.getElem_toArray]
        rw [hyi i (by omega), hyi j (by omega)]
        exact this
    have hs := hr.sorted (xs' := ys) (by decide) hb h1.symm hβ hh k3 k1 k2 h2 h3 enc d' hd' hyl (fun j hj => (d'[j]!).2.2.1) (fun i hi => by
      rw [hyi i hi, ← hokp]
      exact (d'[i]!).2.1) n os
    rw [withA_upd (by decide), huniq] at hs
    exact ⟨_, β, ν, rfl, hs, htup _ _ _⟩

end Go.Um
