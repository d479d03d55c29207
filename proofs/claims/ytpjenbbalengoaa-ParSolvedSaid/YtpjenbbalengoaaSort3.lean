/- The library's sort by a function, of a row of structs of the caller's own. No condition. -/
import Derived.Test.YtpjenbbalengoaaSort2
namespace Go.Um
open Go Go.RowKit

theorem flatK_at {γ : Type} [Inhabited γ] (enc : γ → List Value) (k : Nat) (hk : 0 < k) (henc : ∀ q, (enc q).length = k) (d : Array γ) (i : Nat) (hi : i < d.size) : ((Go.Sort.flatK enc k d).toList.drop (i * k)).take k = enc d[i]! := by
  have hs : (i + 1) * k ≤ d.size * k := Nat.mul_le_mul_right k hi
  rw [Nat.succ_mul] at hs
  apply List.ext_getElem (by simp [henc]; omega)
  intro j h1 h2
  rw [henc] at h2
  rw [List.getElem_take, List.getElem_drop, Array.getElem_toList]
  have h3 : i * k + j < d.size * k := by omega
  have := Go.Sort.get_flatK enc k d (i * k + j) h3
  rw [getElem!_pos _ _ (by simpa using h3)] at this
  rw [this, show (i * k + j) / k = i by rw [Nat.mul_comm, Nat.mul_add_div hk, Nat.div_eq_of_lt h2, Nat.add_zero], show (i * k + j) % k = j by rw [Nat.mul_comm, Nat.mul_add_mod, Nat.mod_eq_of_lt h2]]
  rw [getElem!_pos _ _ (by rw [henc]; exact h2)]

theorem RelB.sortedK {P : Program} {X : Cx} {t : St} {a : Act} {w : World} {β : Nat → Option Nat} {ν : Nat → Value} (hr : RelB P X t a w β ν) {o1 u e k by_ g cap : Nat} {α γ : Type} [Inhabited γ] {f : α → D} {z : α} {xs xs' : List α} {cur : Array Value} (h4 : 10000 ≤ o1) (hb : t o1 = .arr u e k by_ f z xs)
    (hν : ν o1 = .slice (some ⟨g, 0, none⟩) xs.length cap) (hβ : β o1 = some g) (hh : w.heap[g]? = some (.cells cur e (0, 0))) (hsz : cur.size = cap * k) (hcap : xs.length ≤ cap) (hcm : cap ≤ maxLen) (hk : 0 < k) (hby : xs.length * by_ ≤ 140737488355328) (hlim : xs.length ≤ 140737488355328)
    (enc : γ → List Value) (henc : ∀ q, (enc q).length = k) (d : Array γ) (hd : d.size = xs.length) (hl : xs'.length = xs.length) (h1 : ∀ q, ∀ c ∈ enc q, c.oneCell' = true) (hR : ∀ i (h : i < xs'.length), R P (f xs'[i]) (okAt X t β w) w (enc d[i]!)) (n : Nat) (os : Array Obj) :
    RelB P X (upd t o1 (.arr u e k by_ f z xs')) a (Go.Proofs.sortWorldK enc k w g 0 n d os) β ν := by
  have hfs : (Go.Sort.flatK enc k d).size = xs.length * k := by rw [Go.Sort.size_flatK, hd]
  have hle : xs.length * k ≤ cap * k := Nat.mul_le_mul_right k hcap
  have hcs : (Sort.putCells id 0 (Go.Sort.flatK enc k d) cur).size = cap * k := by simp [Sort.putCells, hsz]
  have htk : (Sort.putCells id 0 (Go.Sort.flatK enc k d) cur).toList.take (xs.length * k) = (Go.Sort.flatK enc k d).toList := by
    rw [← hfs, putCells_take id _ cur (by rw [hfs, hsz]; exact hle)]
    apply List.ext_getElem (by simp)
    intro i h1 h2
    simp only [List.getElem_map, List.getElem_range, id]
    rw [getElem!_pos _ _ (by simpa using h2), Array.getElem_toList]
  have hmem : ∀ c ∈ (Go.Sort.flatK enc k d).toList, c.oneCell' = true := fun c hc => by
    obtain ⟨j, hj, rfl⟩ := List.getElem_of_mem hc
    have hj' : j < d.size * k := by simpa using hj
    have e1 : j / k < d.size := Nat.div_lt_of_lt_mul (by rw [Nat.mul_comm]; exact hj')
    have := Go.Sort.get_flatK enc k d j hj'
    rw [getElem!_pos _ _ (by simpa using hj')] at this
    rw [Array.getElem_toList, this, getElem!_pos _ _ (by rw [henc]; exact Nat.mod_lt _ hk)]
    exact h1 _ _ (List.getElem_mem _)
  have h := hr.setRow (cur' := Sort.putCells id 0 (Go.Sort.flatK enc k d) cur) (xs' := xs') h4 hb hν hβ hh hcs hcap hcm hk hby hlim hl htk hmem (fun i hi => by
    rw [flatK_at enc k hk henc d i (by omega)]
    exact hR i hi)
  refine h.below ⟨⟨rfl, rfl, rfl, ?_, ?_⟩, ?_⟩
  · show _ ≤ (Sort.grow _ os).heap.size
    simp only [Sort.grow, Go.Sort.putRowK, Array.size_append, putRow_size]
    show (w.setRow g (Sort.putCells id 0 (Go.Sort.flatK enc k d) cur)).heap.size ≤ w.heap.size + os.size
    simp
  · intro j hj
    have hj' : j < w.heap.size := by simpa using hj
    have e0 : (Go.Proofs.sortWorldK enc k w g 0 n d os).heap[j]? = (Sort.putRow id (Sort.ahead w n) g 0 (Go.Sort.flatK enc k d)).heap[j]? := by
      simp only [Go.Proofs.sortWorldK, Sort.grow, Go.Sort.putRowK]
      rw [Array.getElem?_append_left (by rw [putRow_size]; exact hj')]
    rw [e0]
    by_cases e1 : j = g
    · subst e1
      rw [putRow_heap id (Sort.ahead w n) j _ (cur := cur) (e := e) (fr := (0, 0)) hh, setRow_heap w j cur _ e _ hh]
    · rw [putRow_other id _ g j _ e1, setRow_other w g j _ e1]
      rfl
  · show w.drawn ≤ w.drawn + n
    omega

theorem row_openK {P : Program} {X : Cx} {t : St} {a : Act} {w : World} {β : Nat → Option Nat} {ν : Nat → Value} (hr : RelB P X t a w β ν) {o1 u e k by_ : Nat} {α : Type} {f : α → D} {z : α} {xs : List α} (hk : 0 < k) (hb : t o1 = .arr u e k by_ f z xs) {v : Value} (hv : VR P (okAt X t β w) w t β ν (.row o1 u) [v]) :
    v = ν o1 ∧ xs.length * by_ ≤ 140737488355328 ∧ xs.length ≤ 140737488355328 ∧ ((v = .slice none 0 0 ∧ xs = []) ∨ ∃ g cap cur, v = .slice (some ⟨g, 0, none⟩) xs.length cap ∧ β o1 = some g ∧ w.heap[g]? = some (.cells cur e (0, 0)) ∧ xs.length ≤ cap ∧ cap ≤ maxLen ∧ cur.size = cap * k ∧
      ∀ i (h : i < xs.length), ∃ cs : List Value, cs.length = k ∧ (∀ j (h : j < k), w.cell? ⟨g, 0 + (i * k + j), none⟩ = some (cs[j]!) ∧ w.frozen? ⟨g, 0 + (i * k + j), none⟩ = false) ∧ (∀ c ∈ cs, c.oneCell' = true) ∧ R P (f xs[i]) (okAt X t β w) w cs) := by
  obtain ⟨v', m, e1, h1, h2, h3⟩ := hv
  simp only [List.cons.injEq, and_true] at e1
  subst e1
  rw [hb] at h1
  simp only [ver, Option.some.injEq] at h1
  have hvv := h3 h1 (by rw [hb]; rfl)
  have ho := hr.obj o1
  rw [hb] at ho
  obtain ⟨cells, g1, g2, _, g4, g5, g6, g7⟩ := ho
  rw [← hvv] at g1 g2
  refine ⟨hvv, g4, g5, ?_⟩
  obtain ⟨k1, k2⟩ := g1
  rcases k2 with ⟨k2, k3⟩ | ⟨g, cap, cur, k2, _, k4, k5, k6, k7, k8⟩
  · exact .inl ⟨k2, List.eq_nil_of_length_eq_zero k3⟩
  · right
    refine ⟨g, cap, cur, k2, by rw [g2, k2]; rfl, k4, k5, k6, k7, fun i hi => ?_⟩
    have hs : (i + 1) * k ≤ xs.length * k := Nat.mul_le_mul_right k hi
    rw [Nat.succ_mul] at hs
    refine ⟨(cells.drop (i * k)).take k, by rw [List.length_take, List.length_drop]; omega, fun j hj => ?_, fun c hc => g6 c (List.mem_of_mem_drop (List.mem_of_mem_take hc)), g7 i hi⟩
    have hlt : i * k + j < cells.length := by omega
    have hcur : cur[i * k + j]? = some cells[i * k + j] := by
      have : (cur.toList.take (xs.length * k))[i * k + j]? = some cells[i * k + j] := by rw [k8]; exact List.getElem?_eq_getElem hlt
      rw [List.getElem?_take, if_pos (by omega)] at this
      simpa using this
    have e2 : ((cells.drop (i * k)).take k)[j]! = cells[i * k + j] := by
      rw [getElem!_pos _ _ (by rw [List.length_take, List.length_drop]; omega), List.getElem_take, List.getElem_drop]
    rw [e2]
    refine ⟨?_, ?_⟩
    · simp [World.cell?, k4, hcur]
    · simp [World.frozen?, k4]

theorem sortK_spec {P : Program} {ρ : Go.Shelf.Ren} (L : Go.Proofs.SlLaysF0.n6 P ρ) {α : Type} (f : α → D) (z : α) (k : Nat) (hk : 0 < k) (aE : ∀ w, (isAgg (ρ.t 24)).run P w = .ok true w) (zE : ∀ w, (Go.sizeOf (ρ.t 24)).run P w = .ok k w) (V : α → Prop) (cf : α → α → Int) (hagg : ∀ x, (f x).isAgg = true) (hO : Sort.SWO (Go.Proofs.ltOf cf))
    {F : FuncId} (hF : IsFn P F) (hS : ∀ x y, V x → V y → Spec P F [.val (f x), .val (f y)] (.int .i64 (cf x y))) (u e by_ : Nat) (xs zs : List α) (hV : ∀ x ∈ xs, V x) (hz : ∀ ys : List α, ys.Perm xs → ys.Pairwise (fun x y => Go.Proofs.ltOf cf y x = false) → ys = zs) :
    SpecB P (ρ.f 6) [.row 30000 u, .clo F .cnil] [(30000, .arr u e k by_ f z xs)] (.tup .nil) [(30000, .arr u e k by_ f z zs)] := by
  intro X a β ν vs hr hargs
  obtain ⟨v, vs', rfl, hv, v2, vs2, rfl, hv2', rfl⟩ := hargs
  have hv2 := clo_cmp hF hS hv2'
  have hb : ofL (withA [(30000, AV.arr u e k by_ f z xs)] [(30000, AV.arr u e k by_ f z xs)]) 30000 = .arr u e k by_ f z xs := rfl
  have htup : ∀ (s : St) (β' : Nat → Option Nat) (w' : World), RV P (.tup .nil) (okAt X s β' w') w' (.tuple #[]) := fun s β' w' => ⟨rfl, #[], rfl, rfl⟩
  obtain ⟨h1, h2, h3, h4⟩ := row_openK hr hk hb hv
  obtain ⟨v2', e2, hv2a, F, caps, hv2b, hF, hfn⟩ := hv2
  simp only [List.cons.injEq, and_true] at e2
  subst e2
  have hval : v2 = .func (.func F) #[] caps := fn_val hv2a hv2b
  subst hval
  have hnil : xs = [] → zs = xs := fun h => by subst h; exact (hz [] (List.Perm.refl _) List.Pairwise.nil).symm
  rcases h4 with ⟨rfl, rfl⟩ | ⟨g, cap, cur, rfl, hβ, hh, k1, k2, k3, k4⟩
  · refine (Go.Proofs.AnyF.slices_SortFunc_none (P := P) (ρ := ρ) L none 0 _ X.w0).mono ?_
    rintro e' w' ⟨rfl, rfl⟩
    exact ⟨_, β, ν, rfl, by rw [hnil rfl]; exact hr, htup _ _ _⟩
  · obtain ⟨okp, hokp⟩ : ∃ okp, okp = okAt X (ofL (withA [(30000, AV.arr u e k by_ f z xs)] [(30000, AV.arr u e k by_ f z xs)])) β X.w0 := ⟨_, rfl⟩
    rw [← hokp] at k4 hfn
    have hlt : g < X.w0.heap.size := (Array.getElem?_eq_some_iff.1 hh).1
    by_cases hxs : xs = []
    · subst hxs
      refine (Go.Proofs.AnyF.slices_SortFunc_none (P := P) (ρ := ρ) L (some ⟨g, 0, none⟩) cap _ X.w0).mono ?_
      rintro e' w' ⟨rfl, rfl⟩
      exact ⟨_, β, ν, rfl, by rw [hnil rfl]; exact hr, htup _ _ _⟩
    have hokg : ∀ b, okp b → b ≠ g ∧ b < X.w0.heap.size := fun b hb' => by
      rw [hokp] at hb'
      exact ⟨fun e => hb'.2.2 30000 rfl (by rw [e]; exact hβ), hb'.2.1⟩
    let γ := { q : List Value × α // R P (f q.2) okp X.w0 q.1 ∧ (q.1.length = k ∧ ∀ c ∈ q.1, c.oneCell' = true) ∧ V q.2 }
    let mkd : Fin xs.length → γ := fun i => ⟨(Classical.choose (k4 i.1 i.2), xs[i.1]), (Classical.choose_spec (k4 i.1 i.2)).2.2.2, ⟨(Classical.choose_spec (k4 i.1 i.2)).1, (Classical.choose_spec (k4 i.1 i.2)).2.2.1⟩, hV _ (List.getElem_mem i.2)⟩
    have hpos : 0 < xs.length := List.length_pos_iff.2 hxs
    haveI : Inhabited γ := ⟨mkd ⟨0, hpos⟩⟩
    let enc : γ → List Value := fun q => q.1.1
    let cg : γ → γ → Int := fun x y => cf x.1.2 y.1.2
    let d : Array γ := Array.ofFn mkd
    have hd : d.size = xs.length := by simp [d]
    have hdj : ∀ j (h : j < xs.length), d[j]! = mkd ⟨j, h⟩ := fun j h => by simp [d, h]
    have hH : Go.Sort.HoldsK enc k X.w0 g 0 d := by
      intro t ht
      rw [Go.Sort.size_flatK] at ht
      have e1 : t / k < d.size := Nat.div_lt_of_lt_mul (by rw [Nat.mul_comm]; exact ht)
      have e2 : t / k * k + t % k = t := by rw [Nat.mul_comm]; exact Nat.div_add_mod t k
      rw [Go.Sort.get_flatK enc k d t ht]
      rw [hd] at e1
      rw [hdj _ e1]
      have := (Classical.choose_spec (k4 (t / k) e1)).2.1 (t % k) (Nat.mod_lt _ hk)
      rw [e2] at this
      exact this
    have hOg : Sort.SWO (Go.Proofs.ltOf cg) := ⟨fun x => hO.irrefl _, fun x y q => hO.trans _ _ _, fun x y q => hO.ntrans _ _ _⟩
    have hcmp : Go.Proofs.CmpLays P F caps enc k cg g 0 d.size X.w0 := by
      intro m os dk hdk x y
      have hWs : X.w0.heap.size ≤ (Go.Proofs.sortWorldK enc k X.w0 g 0 m dk os).heap.size := by
        simp only [Go.Proofs.sortWorldK, Sort.grow, Go.Sort.putRowK, Array.size_append, putRow_size]
        show X.w0.heap.size ≤ X.w0.heap.size + os.size
        omega
      have hWb : ∀ b, okp b → (Go.Proofs.sortWorldK enc k X.w0 g 0 m dk os).heap[b]? = X.w0.heap[b]? := fun b hb' => by
        obtain ⟨c1, c2⟩ := hokg b hb'
        simp only [Go.Proofs.sortWorldK, Sort.grow, Go.Sort.putRowK]
        rw [Array.getElem?_append_left (by rw [putRow_size]; exact c2), putRow_other id _ g b _ c1]
        rfl
      obtain ⟨W, hW⟩ : ∃ W, Go.Proofs.sortWorldK enc k X.w0 g 0 m dk os = W := ⟨_, rfl⟩
      rw [hW] at hWs hWb ⊢
      have hRx : ∀ q : γ, vAgg (.agg (enc q).toArray) = (f q.1.2).isAgg ∧ R P (f q.1.2) okp W (Value.agg (enc q).toArray).cells.toList := fun q => by
        refine ⟨by rw [hagg]; rfl, ?_⟩
        show R P (f q.1.2) okp W (q.1.1)
        exact R_mono _ (fun b hb' => ⟨hb', hWb b hb'⟩) hWs q.2.1
      have hcall := hfn ⟨(x.1.2, y.1.2), x.2.2.2, y.2.2.2⟩ W okp [.agg (enc x).toArray, .agg (enc y).toArray] (fun b hb' _ => hWb b hb') hWs (fun b hb' => Nat.lt_of_lt_of_le (hokg b hb').2 hWs) ⟨_, _, rfl, (hRx x).1, (hRx x).2, _, _, rfl, (hRx y).1, (hRx y).2, rfl⟩
      refine hcall.mono ?_
      rintro e' w' ⟨v, rfl, c1, c2, c3⟩
      have hvv : v = .int .i64 (cg x y) := val_one.1 _ _ ⟨c1, c2⟩
      subst hvv
      exact ⟨rfl, grow_of_belw c3⟩
    have hcl := Go.Proofs.AnyQ.slices_SortFunc (P := P) (ρ := ρ) L k aE zE enc (fun q => q.2.2.1.1) (fun q => q.2.2.1.2) cg hOg F caps g 0 cap d X.w0 (run_callFunc hF) hcmp hH hlt (by rw [hd]; omega)
    rw [hd] at hcl
    refine hcl.mono ?_
    rintro e' w' ⟨rfl, d', n, os, hperm, hsort, rfl⟩
    obtain ⟨p1, p2, p3⟩ := hperm
    have hd' : d'.size = xs.length := p1.trans hd
    have q1 : d'.extract 0 xs.length = d' := by rw [← hd']; simp
    have q2 : d.extract 0 xs.length = d := by rw [← hd]; simp
    rw [q1, q2] at p3
    have hdx : d.toList.map (fun q => q.1.2) = xs := by
      apply List.ext_getElem (by simp [d])
      intro i h1' h2'
      simp [d, mkd]
    obtain ⟨ys, hys⟩ : ∃ ys, d'.toList.map (fun q => q.1.2) = ys := ⟨_, rfl⟩
    have hyp : ys.Perm xs := by rw [← hys, ← hdx]; exact p3.map _
    have hyl : ys.length = xs.length := hyp.length_eq
    have hyi : ∀ i (h : i < ys.length), ys[i] = (d'[i]!).1.2 := fun i h => by
      subst hys
      have : i < d'.size := by simpa using h
      simp [this]
    have huniq : ys = zs := hz ys hyp (by
      rw [List.pairwise_iff_getElem]
      intro i j hi hj hij
      have := hsort i j (Nat.zero_le _) hij (by omega)
      rw [hyi i hi, hyi j hj]
      exact this)
    have hs := hr.sortedK (xs' := ys) (by decide) hb h1.symm hβ hh k3 k1 k2 hk h2 h3 enc (fun q => q.2.2.1.1) d' hd' hyl (fun q => q.2.2.1.2) (fun i hi => by
      rw [hyi i hi, ← hokp]
      exact (d'[i]!).2.1) n os
    rw [withA_upd (by decide), huniq] at hs
    exact ⟨_, β, ν, rfl, hs, htup _ _ _⟩

/-! ### Stores of structs -/

def splice {β : Type} (A : List β) (k : Nat) (q : List β) : List β := A.take k ++ q ++ A.drop (k + q.length)
theorem splice_get {β : Type} {A q : List β} {k : Nat} (hk : k + q.length ≤ A.length) (t : Nat) : (splice A k q)[t]? = if t < k then A[t]? else if t < k + q.length then q[t - k]? else A[t]? := by
  unfold splice
  have hl : (A.take k).length = k := by rw [List.length_take]; omega
  by_cases h1 : t < k
  · rw [if_pos h1, List.append_assoc, List.getElem?_append_left (by omega), List.getElem?_take, if_pos h1]
  · rw [if_neg h1]
    by_cases h2 : t < k + q.length
    · rw [if_pos h2, List.getElem?_append_left (by rw [List.length_append]; omega), List.getElem?_append_right (by omega), hl]
    · rw [if_neg h2, List.getElem?_append_right (by rw [List.length_append]; omega), List.getElem?_drop, List.length_append, hl]
      congr 1
      omega
theorem splice_len {β : Type} {A q : List β} {k : Nat} (hk : k + q.length ≤ A.length) : (splice A k q).length = A.length := by
  unfold splice
  rw [List.length_append, List.length_append, List.length_take, List.length_drop]
  omega
theorem splice_at {β : Type} {A q : List β} {m i sz L : Nat} (hq : q.length = sz) (hA : L * sz ≤ A.length) (hm : m < L) : ((splice A (m * sz) q).drop (i * sz)).take sz = if i = m then q else (A.drop (i * sz)).take sz := by
  have hml : m * sz + sz ≤ L * sz := by rw [← Nat.succ_mul]; exact Nat.mul_le_mul_right _ hm
  apply List.ext_getElem?
  intro j
  rw [List.getElem?_take]
  by_cases hj : j < sz
  · rw [if_pos hj, List.getElem?_drop, splice_get (by omega)]
    by_cases e : i = m
    · subst e
      rw [if_pos rfl, if_neg (by omega), if_pos (by omega), Nat.add_sub_cancel_left]
    · rw [if_neg e, List.getElem?_take, if_pos hj, List.getElem?_drop]
      rcases Nat.lt_or_gt_of_ne e with h | h
      · have : i * sz + sz ≤ m * sz := by rw [← Nat.succ_mul]; exact Nat.mul_le_mul_right _ h
        rw [if_pos (by omega)]
      · have : m * sz + sz ≤ i * sz := by rw [← Nat.succ_mul]; exact Nat.mul_le_mul_right _ h
        rw [if_neg (by omega), if_neg (by omega)]
  · rw [if_neg hj]
    split
    · rw [List.getElem?_eq_none (by omega)]
    · rw [List.getElem?_take, if_neg hj]
theorem splice_take {β : Type} {A q : List β} {k l : Nat} (hk : k + q.length ≤ l) (hl : l ≤ A.length) : (splice A k q).take l = splice (A.take l) k q := by
  apply List.ext_getElem?
  intro t
  rw [List.getElem?_take, splice_get (A := A.take l) (by rw [List.length_take]; omega), splice_get (by omega)]
  by_cases h : t < l
  · rw [if_pos h, List.getElem?_take, if_pos h]
  · rw [if_neg h, if_neg (by omega), if_neg (by omega), List.getElem?_take, if_neg h]

section
variable {P : Program} {n : Nat} {ops : Array Oper} {s : St} {o : Oper}
theorem r_storeEA {x y : Operand} {T o1 u e sz by_ m : Nat} {α : Type} {f : α → D} {z v : α} {xs : List α} {d : D} (ho : o.op = .store T x y) (hs : Size P T sz) (hd : o.dst = none) (hg : o.guard = none) (hob : Nat.blt 9999 o1 = true) (hx : Sees (ev s x) (.elt o1 u sz m)) (hb : s o1 = .arr u e sz by_ f z xs) (hm : m < xs.length)
    (hy : Sees (ev s y) (.val (f v))) (hf : f v = .agg d) (hfl : d.flat1 = true) (hlen : d.len = sz) : LStep P n ops o ((o1 :: kx x) ++ kx y, [o1]) s (upd s o1 (.arr u e sz by_ f z (xs.set m v))) := by
  refine ⟨upd_off, fun X t a w hX hk hr Q => ?_⟩
  obtain ⟨β, ν, hr⟩ := hr
  obtain ⟨g, cap, cur, cells, q1, q2, q3, q4, q5, q6, q7, q8, q9, q10, q11, q12, q13, q14⟩ := hr.atElt (kl hk) hx hb hm
  obtain ⟨q, e1, hq1, hq2⟩ := hr.sees (kr hk) hy
  simp only [List.cons.injEq, and_true] at e1
  subst e1
  have hq3 := hq2
  rw [hf] at hq3
  obtain ⟨_, r2, r3⟩ := R_toAV (s := t) (β := β) (ν := ν) d hfl hq3
  have hsz : (a.eval y).cells.toList.length = sz := by rw [r3, hlen]
  have hsz2 : (a.eval y).cells.size = sz := by rw [← Array.length_toList, hsz]
  have hml : m * sz + sz ≤ xs.length * sz := by rw [← Nat.succ_mul]; exact Nat.mul_le_mul_right _ hm
  have hcl : xs.length * sz ≤ cap * sz := Nat.mul_le_mul_right _ q8
  have hcur : cur.toList.length = cap * sz := by simpa using q7
  have hrun : (execOp a.eval o).run P w = .ok .skip (w.setRow g (splice cur.toList (m * sz) (a.eval y).cells.toList).toArray) := by
    have hst := run_storeCells_at (P := P) g (m * sz) e (a.eval y).cells.toList 0 cur w q4 (by omega) r2
    rw [Nat.add_zero] at hst
    simp [execOp, ho, Instr.storeAt, q3, Instr.sureAddr, storeVar, run_sizeOf hs, hsz2]
    rw [hst]
    rfl
  refine opWp_skip (by simp [Region.wanted, hg]) hd hrun ?_
  rw [ovr_one]
  have hob' := blt_lt hob
  have hcells : (splice cur.toList (m * sz) (a.eval y).cells.toList).toArray.toList.take (xs.length * sz) = splice cells (m * sz) (a.eval y).cells.toList := by
    rw [← q6]
    exact splice_take (by omega) (by omega)
  refine ⟨β, ν, hr.setRow (by omega) (by rw [hk o1 (by simp), hb]) q1 q2 q4 (by rw [List.size_toArray, splice_len (by omega), hcur]) q8 q9 q10 q11 q12 (by simp) hcells ?_ ?_⟩
  · intro c hc
    unfold splice at hc
    rcases List.mem_append.1 hc with h | h
    · rcases List.mem_append.1 h with h | h
      · exact q13 c (List.mem_of_mem_take h)
      · exact r2 c h
    · exact q13 c (List.mem_of_mem_drop h)
  · intro i hi
    simp only [List.length_set] at hi
    have h14 := q14 i hi
    rw [splice_at (L := xs.length) hsz (by rw [q5.1]; exact Nat.le_refl _) hm]
    by_cases e : i = m
    · subst e
      rw [if_pos rfl, List.getElem_set_self]
      exact hq2
    · rw [if_neg e, List.getElem_set_ne (fun h => e h.symm)]
      exact h14

/-- The address of a field of an element; what it holds. -/
theorem p_fieldE {x : Operand} {T i off ft k o1 u e sz by_ m : Nat} {α : Type} {f : α → D} {z : α} {xs : List α} (ho : o.op = .fieldAddr T x i) (hF : IsField P T i off ft) (hs : Size P ft k) (hk0 : Nat.blt 0 k = true) (hx : Sees (ev s x) (.elt o1 u sz m)) (hb : s o1 = .arr u e sz by_ f z xs) (hm : m < xs.length) :
    PStep P o (o1 :: kx x) s (.elt o1 u 1 (m * sz + off)) := by
  intro X t a w β ν hk hr
  obtain ⟨g, cap, cur, cells, q1, q2, q3, q4, q5, q6, q7, q8, q9, q10, q11, q12, q13, q14⟩ := hr.atElt hk hx hb hm
  have hob : t o1 = .arr u e sz by_ f z xs := by rw [hk o1 (by simp), hb]
  refine ⟨rfl, .pointer (some ⟨g, m * sz + off, none⟩), ?_, ⟨_, u, rfl, by rw [hob]; rfl, Nat.le_refl _, fun _ _ => ⟨g, q2, by rw [Nat.mul_one]⟩⟩⟩
  unfold IsField at hF
  obtain ⟨dsc, g1, g2⟩ := Option.bind_eq_some_iff.1 hF
  cases dsc <;> simp at g2
  rename_i fs
  obtain ⟨fld, g3, g4, g5⟩ := g2
  subst g4 g5
  have hne : k ≠ 0 := by have := blt_lt hk0; omega
  simp [execOp, ho, Instr.fieldAt, q3, Instr.sureAddr, run_underlying' g1, g3, fieldPlace, run_sizeOf hs, hne, Addr.add_none]

theorem p_loadF {x : Operand} {T o1 u e sz by_ m off : Nat} {α : Type} {f : α → D} {z : α} {xs : List α} {c d : D} (ho : o.op = .load T x) (hT : IsAgg P T false) (hx : Sees (ev s x) (.elt o1 u 1 (m * sz + off))) (hb : s o1 = .arr u e sz by_ f z xs) (hm : m < xs.length)
    (hf : f (xs.getD m z) = .agg c) (hfl : c.flat1 = true) (hoff : Nat.blt off c.toAV.len = true) (hn : c.toAV.nth off = .val d) : PStep P o (o1 :: kx x) s (.val d) := by
  intro X t a w β ν hk hr
  obtain ⟨v, k, e1, h1, h2, h3⟩ := hr.sees (fun k hk' => hk k (by simp [hk'])) hx
  simp only [List.cons.injEq, and_true] at e1
  have hob : t o1 = .arr u e sz by_ f z xs := by rw [hk o1 (by simp), hb]
  rw [hob] at h1
  simp only [ver, Option.some.injEq] at h1
  obtain ⟨g, h4, h5⟩ := h3 h1 (by rw [hob]; rfl)
  have ho' := hr.obj o1
  rw [hob] at ho'
  obtain ⟨cells, g1, g2, g3, g4, g4', g5, g6⟩ := ho'
  have hR := g6 m hm
  rw [show xs[m] = xs.getD m z by simp [List.getD, hm], hf] at hR
  obtain ⟨r1, r2, r3⟩ := R_toAV (s := t) (β := β) (ν := ν) c hfl hR
  obtain ⟨v', hv1, hv2⟩ := VR_nth c.toAV off r1 (blt_lt hoff)
  rw [hn] at hv2
  refine ⟨rfl, v', ?_, hv2⟩
  have hc : cells[m * sz + off]? = some v' := by
    rw [List.getElem?_take] at hv1
    split at hv1
    · rw [List.getElem?_drop] at hv1; exact hv1
    · cases hv1
  have hcell := g1.cells (g := g) (by rw [← g2]; exact h4) (m * sz + off) v' hc
  rw [Addr.add_none rfl] at hcell
  simp only [Nat.zero_add] at hcell
  have q3 : a.eval x = .pointer (some ⟨g, m * sz + off, none⟩) := by rw [e1, h5, Nat.mul_one]
  simp [execOp, ho, Instr.loadAt, q3, Instr.sureAddr, loadVar, run_isAgg hT, hcell]
end
end Go.Um
