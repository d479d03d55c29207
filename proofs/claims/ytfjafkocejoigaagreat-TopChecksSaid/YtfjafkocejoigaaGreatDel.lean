/- slices.Delete of one element, by the kit's contract, as a contract over a row of the caller's own. No condition. -/
import Derived.Test.YtfjafkocejoigaaGreatSort
import Derived.Test.YtfjafkocejoigaaGreatBD
import Derived.Shelf.SlicesE.Delete
namespace Go.Um
open Go Go.RowKit

section
variable {P : Program} {X : Cx} {t : St} {a : Act} {w : World} {β : Nat → Option Nat} {ν : Nat → Value}
theorem RelB.trim (hr : RelB P X t a w β ν) {o1 u e by_ g cap m : Nat} {α : Type} {f : α → D} {z : α} {xs : List α} (h4 : 10000 ≤ o1) (h9 : o1 ≠ 29999) (hb : t o1 = .arr u e 1 by_ f z xs) (hν : ν o1 = .slice (some ⟨g, 0, none⟩) xs.length cap) (hm : m ≤ xs.length) :
    RelB P X (upd t o1 (.arr (u + 1) e 1 by_ f z (xs.take m))) a w β (fun k => if k = o1 then .slice (some ⟨g, 0, none⟩) m cap else ν k) := by
  have eo : upd t o1 (.arr (u + 1) e 1 by_ f z (xs.take m)) o1 = .arr (u + 1) e 1 by_ f z (xs.take m) := upd_same ..
  have el : ∀ j, j ≠ o1 → upd t o1 (.arr (u + 1) e 1 by_ f z (xs.take m)) j = t j := fun j h1 => upd_ne _ _ h1
  generalize upd t o1 (.arr (u + 1) e 1 by_ f z (xs.take m)) = s' at eo el
  have hl : ∀ j, live (s' j) = live (t j) := fun j => by
    by_cases h1 : j = o1
    · subst h1; rw [eo, hb]; rfl
    · rw [el j h1]
  have hgo : Goes t s' β β ν (fun k => if k = o1 then .slice (some ⟨g, 0, none⟩) m cap else ν k) := fun j k hk => by
    by_cases h1 : j = o1
    · subst h1
      rw [hb] at hk
      simp only [ver, Option.some.injEq] at hk
      exact ⟨u + 1, by rw [eo]; rfl, by omega, fun e _ => by omega⟩
    · exact ⟨k, by rw [el j h1]; exact hk, Nat.le_refl _, fun _ h => ⟨by rw [← hl j]; exact h, rfl, if_neg h1⟩⟩
  have hok : ∀ b, okAt X t β w b → okAt X s' β w b ∧ w.heap[b]? = w.heap[b]? := fun b hb' => ⟨⟨hb'.1, hb'.2.1, fun j hj => hb'.2.2 j (by rw [← hl j]; exact hj)⟩, rfl⟩
  have hlen : (xs.take m).length = m := by rw [List.length_take]; omega
  refine hr.move rfl rfl ⟨rfl, Nat.le_refl _⟩ (Nat.le_refl _) (fun _ _ _ => rfl) hok hgo (fun j b h1 h2 => .inl ⟨by rw [← hl j]; exact h1, h2⟩) (fun j j' b h1 h2 => hr.inj j j' b (by rw [← hl j]; exact h1) (by rw [← hl j']; exact h2)) ?_ ?_ ?_ rfl rfl ?_
  · intro j hj
    by_cases h1 : j = o1
    · subst h1
      right
      rw [eo]
      have ho := hr.obj j
      rw [hb] at ho
      obtain ⟨cells, g1, g2, g3, g4, g4', g5, g6⟩ := ho
      refine ⟨cells.take (m * 1), ?_, ?_, g3, ?_, ?_, fun c hc => g5 c (List.mem_of_mem_take hc), fun i hi => ?_⟩
      · show w.ownsRow 0 e 1 (if j = j then _ else _) _ _
        rw [if_pos rfl, hlen]
        rw [hν] at g1
        rcases g1.2 with ⟨hv, _⟩ | ⟨g', cap', cur, hv, hbg, hgc, hnc, hcm, hcs, htake⟩
        · cases hv
        · simp only [Value.slice.injEq, Option.some.injEq, Addr.mk.injEq, and_true] at hv
          obtain ⟨rfl, _, rfl⟩ := hv
          refine ⟨by rw [List.length_take, g1.1]; omega, .inr ⟨g, cap, cur, rfl, hbg, hgc, by omega, hcm, hcs, ?_⟩⟩
          rw [← htake, List.take_take, Nat.min_eq_left (by omega)]
      · show β j = (if j = j then _ else _ : Value).ownBlock
        rw [if_pos rfl, g2, hν]
        rfl
      · rw [hlen]; exact Nat.le_trans (Nat.mul_le_mul_right _ hm) g4
      · rw [hlen]; omega
      · rw [hlen] at hi
        have h6 := g6 i (by omega)
        have e1 : ((cells.take (m * 1)).drop (i * 1)).take 1 = (cells.drop (i * 1)).take 1 := by
          rw [List.drop_take, List.take_take]
          congr 1
          omega
        rw [e1, List.getElem_take]
        exact R_mono _ hok (Nat.le_refl _) h6
    · exact .inl ⟨el j h1, rfl, if_neg h1, fun _ _ => rfl⟩
  · intro k hk
    exact .inl ⟨el k (by omega), rfl⟩
  · intro k hk
    rw [el k (by omega)]
    exact hr.keys k hk
  · intro _
    exact .inl (el _ (Ne.symm h9))
end

theorem delete_spec {P : Program} {ρ : Go.Shelf.Ren} (L : Go.Proofs.SlLaysE.n45 P ρ) (v23 : ∀ w, (zeroValue (ρ.t 23)).run P w = .ok (.slice none 0 0) w) (i0 : TypeInfo) (hi0 : P.info? (ρ.t 23) = some i0) (hz1 : i0.size = 1)
    (u e by_ : Nat) (k : Int) (xs : List (List Int)) (hk0 : 0 ≤ k) (hk : k.toNat < xs.length) :
    SpecV P (ρ.f 45) [.row 30000 u, iv k, iv (k + 1)] [(30000, .arr u e 1 by_ ints [] xs)] (.row 30000 (u + 1)) [(30000, .arr (u + 1) e 1 by_ ints [] (xs.take k.toNat ++ xs.drop (k.toNat + 1)))] := by
  intro X a β ν vs hr hargs
  obtain ⟨v, vs', rfl, hv, v2, vs2, rfl, hv2, v3, vs3, rfl, hv3, rfl⟩ := hargs
  obtain ⟨i, rfl⟩ : ∃ i : Nat, k = i := ⟨k.toNat, by omega⟩
  rw [Int.toNat_natCast] at hk ⊢
  have e2 := vr_int hv2
  have e3 := vr_int hv3
  subst e2 e3
  have hb : ofL (withA [(30000, AV.arr u e 1 by_ ints [] xs)] [(30000, AV.arr u e 1 by_ ints [] xs)]) 30000 = .arr u e 1 by_ ints [] xs := rfl
  obtain ⟨h1, h2, h3, h4⟩ := row_open hr hb hv
  rcases h4 with ⟨_, rfl⟩ | ⟨g, cap, cur, rfl, hβ, hh, k1, k2, k3, k4⟩
  · exact absurd hk (Nat.not_lt_zero _)
  let γ := { q : Value // q.oneCell' = true }
  let zr : γ := ⟨.slice none 0 0, rfl⟩
  haveI : Inhabited γ := ⟨zr⟩
  let enc : γ → Value := fun q => q.1
  let mkd : Fin xs.length → γ := fun j => ⟨Classical.choose (k4 j.1 j.2), (Classical.choose_spec (k4 j.1 j.2)).2.2.1⟩
  let d : Array γ := Array.ofFn mkd
  have hd : d.size = xs.length := by simp [d]
  have hdj : ∀ j (h : j < xs.length), d[j]! = mkd ⟨j, h⟩ := fun j h => by simp [d, h]
  have hH : Sort.Holds enc X.w0 g 0 d := by
    intro j hj
    rw [hd] at hj
    rw [hdj j hj]
    exact ⟨(Classical.choose_spec (k4 j hj)).1, (Classical.choose_spec (k4 j hj)).2.1⟩
  have hRd : ∀ j (h : j < xs.length), R P (ints xs[j]) (okAt X (ofL (withA [(30000, AV.arr u e 1 by_ ints [] xs)] [(30000, AV.arr u e 1 by_ ints [] xs)])) β X.w0) X.w0 [enc d[j]!] := fun j h => by
    rw [hdj j h]
    exact (Classical.choose_spec (k4 j h)).2.2.2
  have hmx : maxLen ≤ 9223372036854775807 := by decide
  have hC := Go.Proofs.AnyE.slices_Delete L enc (fun q => q.2) zr v23 i0 hi0 hz1 g 0 cap i (i + 1) d X.w0 hH (by omega) (by omega) (by omega) (by omega)
  rw [hd] at hC
  refine hC.mono ?_
  rintro e' w' ⟨rfl, q, rfl⟩
  -- the cells, as data
  have hxl : (xs.take i ++ xs.drop (i + 1) ++ [[]]).length = xs.length := by simp; omega
  have hdl : (d.toList.take i ++ d.toList.drop (i + 1) ++ List.replicate (i + 1 - i) zr).toArray.size = xs.length := by
    simp only [List.size_toArray, List.length_append, List.length_take, List.length_drop, List.length_replicate, Array.length_toList, hd]
    omega
  have hget : ∀ j, j < xs.length → (d.toList.take i ++ d.toList.drop (i + 1) ++ List.replicate (i + 1 - i) zr).toArray[j]! = if j < i then d[j]! else if j + 1 < xs.length then d[j + 1]! else zr := by
    intro j hj
    have hdg : ∀ m, m < xs.length → d.toList[m]? = some d[m]! := fun m hm => by
      rw [Array.getElem?_toList, getElem!_pos d m (by omega), Array.getElem?_eq_getElem (by omega)]
    rw [getElem!_def, List.getElem?_toArray]
    by_cases c1 : j < i
    · rw [if_pos c1, List.append_assoc, List.getElem?_append_left (by simp only [List.length_take, Array.length_toList, hd]; omega), List.getElem?_take, if_pos c1, hdg j hj]
    · rw [if_neg c1]
      by_cases c2 : j + 1 < xs.length
      · rw [if_pos c2, List.getElem?_append_left (by simp only [List.length_append, List.length_take, List.length_drop, Array.length_toList, hd]; omega), List.getElem?_append_right (by simp only [List.length_take, Array.length_toList, hd]; omega), List.getElem?_drop]
        simp only [List.length_take, Array.length_toList, hd]
        rw [show i + 1 + (j - min i xs.length) = j + 1 by omega, hdg _ c2]
      · rw [if_neg c2, List.getElem?_append_right (by simp only [List.length_append, List.length_take, List.length_drop, Array.length_toList, hd]; omega), List.getElem?_replicate, if_pos (by simp only [List.length_append, List.length_take, List.length_drop, Array.length_toList, hd]; omega)]
  have hall : ∀ q : γ, (enc q).oneCell' = true := fun q => q.2
  have hs := hr.sorted (xs' := xs.take i ++ xs.drop (i + 1) ++ [[]]) (by decide) hb h1.symm hβ hh k3 k1 k2 h2 h3 enc _ hdl hxl (fun j hj => hall _) (fun j hj => by
    have hj' : j < xs.length := by rw [hxl] at hj; exact hj
    rw [hget j hj']
    by_cases c1 : j < i
    · rw [if_pos c1]
      have e1 : (xs.take i ++ xs.drop (i + 1) ++ [[]])[j] = xs[j] := by
        rw [List.getElem_append_left (by simp; omega), List.getElem_append_left (by simp; omega), List.getElem_take]
      rw [e1]
      exact hRd j hj'
    · rw [if_neg c1]
      by_cases c2 : j + 1 < xs.length
      · rw [if_pos c2]
        have e1 : (xs.take i ++ xs.drop (i + 1) ++ [[]])[j] = xs[j + 1] := by
          rw [List.getElem_append_left (by simp; omega), List.getElem_append_right (by simp; omega), List.getElem_drop]
          congr 1
          simp
          omega
        rw [e1]
        exact hRd (j + 1) c2
      · rw [if_neg c2]
        have e1 : (xs.take i ++ xs.drop (i + 1) ++ [[]])[j] = [] := by
          rw [List.getElem_append_right (by simp; omega)]
          simp
        rw [e1]
        exact ⟨none, 0, rfl, Nat.le_refl _, Nat.zero_le _, Nat.zero_le _, fun m hm => absurd hm (Nat.not_lt_zero m)⟩) q #[]
  rw [Sort.grow_empty] at hs
  have ht := hs.trim (m := xs.length - (i + 1 - i)) (g := g) (cap := cap) (by decide) (by decide) (upd_same ..) (by rw [hxl]; exact h1.symm) (by rw [hxl]; omega)
  have htk : (xs.take i ++ xs.drop (i + 1) ++ [[]]).take (xs.length - (i + 1 - i)) = xs.take i ++ xs.drop (i + 1) := by
    rw [List.take_append_of_le_length (by simp; omega), List.take_of_length_le (by simp; omega)]
  have hup : ∀ x y : AV, upd (upd (ofL (withA [(30000, AV.arr u e 1 by_ ints [] xs)] [(30000, AV.arr u e 1 by_ ints [] xs)])) 30000 x) 30000 y = ofL (withA [(30000, AV.arr u e 1 by_ ints [] xs)] [(30000, y)]) := by
    intro x y
    rw [← withA_upd (x := AV.arr u e 1 by_ ints [] xs) (y := y) (by decide : (30000 : Nat) ≠ 29999)]
    funext j
    by_cases e1 : j = 30000
    · subst e1; rw [upd_same, upd_same]
    · rw [upd_ne _ _ e1, upd_ne _ _ e1, upd_ne _ _ e1]
  rw [htk, hup] at ht
  refine ⟨_, β, _, rfl, ht, _, u + 1, rfl, rfl, Nat.le_refl _, fun _ _ => ?_⟩
  exact (if_pos rfl).symm
end Go.Um
