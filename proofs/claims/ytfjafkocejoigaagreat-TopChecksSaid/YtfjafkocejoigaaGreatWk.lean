/- A variable's cell, told otherwise. No condition. -/
import Derived.Test.YtfjafkocejoigaaGreatBB
import Derived.Test.YtfjafkocejoigaaGreatQ
namespace Go.Um
section
variable {P : Program}

theorem le_seesB {s : St} {ob ub off : Nat} {c : AV} (x : AV) (hb4 : Nat.blt 9999 ob = true) (hb : s ob = .box ub c) (hi : Nat.blt off c.len = true) (hx : Sees (c.nth off) x) :
    Le P s (upd s ob (.box ub (c.set off x))) := by
  intro X a w hr
  obtain ⟨β, ν, hr⟩ := hr
  have hb4' := blt_lt hb4
  have hlb : live (s ob) = true := by rw [hb]; rfl
  generalize hT : upd s ob (.box ub (c.set off x)) = T
  have hs : ∀ j, j ≠ ob → T j = s j := fun j h1 => by rw [← hT, upd_ne _ _ h1]
  have hsb : T ob = .box ub (c.set off x) := by rw [← hT, upd_same]
  have hlv : ∀ j, live (T j) = true → live (s j) = true := by
    intro j hj
    by_cases h2 : j = ob
    · subst h2; exact hlb
    · rw [hs j h2] at hj; exact hj
  have hgoes : Goes s T β β ν ν := by
    intro j m hm
    by_cases e2 : j = ob
    · subst e2
      rw [hb] at hm
      exact ⟨m, by rw [hsb]; exact hm, Nat.le_refl _, fun _ _ => ⟨hlb, rfl, rfl⟩⟩
    · exact ⟨m, by rw [hs j e2]; exact hm, Nat.le_refl _, fun _ hl => ⟨hlv j hl, rfl, rfl⟩⟩
  have hok : ∀ b, okAt X s β w b → okAt X T β w b ∧ w.heap[b]? = w.heap[b]? := by
    intro b hb'
    exact ⟨⟨hb'.1, hb'.2.1, fun j hl h => hb'.2.2 j (hlv j hl) h⟩, rfl⟩
  have hob := hr.obj ob
  rw [hb] at hob
  obtain ⟨b0, cs, ty, g1, g2, g3, g4⟩ := hob
  obtain ⟨v, hv1, hv2⟩ := VR_nth c off (VR_mono hok (Nat.le_refl _) hgoes _ g4) (blt_lt hi)
  refine ⟨β, ν, hr.move rfl rfl ⟨rfl, Nat.le_refl _⟩ (Nat.le_refl _) (fun _ _ _ => rfl) hok hgoes ?_ ?_ ?_ ?_ ?_ rfl rfl (fun hv => .inl (hs _ (by intro e; rw [e, hsb] at hv; cases hv)))⟩
  · intro j b hl hb'; exact .inl ⟨hlv j hl, hb'⟩
  · intro j j' b hl hl' h1 h2; exact hr.inj j j' b (hlv j hl) (hlv j' hl') h1 h2
  · intro j hl
    by_cases e2 : j = ob
    · subst e2
      right
      rw [hsb]
      refine ⟨b0, cs, ty, g1, g2, g3, ?_⟩
      have := VR_set c off x v (VR_mono hok (Nat.le_refl _) hgoes _ g4) (blt_lt hi) (hx _ _ _ _ _ _ _ hv2)
      have e3 : cs.toList.set off v = cs.toList := by
        apply List.ext_getElem?
        intro i
        rw [List.getElem?_set]
        split
        · rename_i e; subst e; split
          · exact hv1.symm
          · rename_i hlt; rw [List.getElem?_eq_none (by omega)]
        · rfl
      rw [e3] at this
      exact this
    · exact .inl ⟨hs j e2, rfl, rfl, fun _ _ => rfl⟩
  · intro j hj; exact .inl ⟨hs j (by omega), rfl⟩
  · intro j hj; rw [hs j (by omega)]; exact hr.keys j hj

abbrev four (a b c d : D) : D := .tup (.cons a (.cons b (.cons c (.cons d .nil))))
end
end Go.Um
