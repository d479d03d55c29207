/- Rows in variables: ghost steps. No condition. -/
import Derived.Test.YtpjenbbalengoaaNew
namespace Go.Um
open Go Go.RowKit

section
variable {P : Program} {n : Nat} {ops : Array Oper} {s : St} {o : Oper}

theorem ovr_two' {t s : St} {d ob : Nat} {x y : AV} (h : d ≠ ob) : ovr t [d, ob] (upd (upd s ob y) d x) = upd (upd t ob y) d x := ovr_two h

/-- A row in a variable's cell is owned no more. -/
theorem g_freezeB {ob ub off o1 u e sz by_ : Nat} {c : AV} {α : Type} {f : α → D} {z : α} {xs : List α} (ho4 : Nat.blt 9999 o1 = true) (hb4 : Nat.blt 9999 ob = true) (hne : Nat.beq ob o1 = false) (hb : s ob = .box ub c) (hi : Nat.blt off c.len = true) (hx : c.nth off = .row o1 u) (hb1 : s o1 = .arr u e sz by_ f z xs) :
    GLe P ([o1, ob], [ob, o1]) s (upd (upd s o1 (.dead u)) ob (.box ub (c.set off (.val (.list sz f z xs))))) := by
  have hne' : ob ≠ o1 := by rintro rfl; simp at hne
  refine ⟨off_two, fun X t a w hk hr => ?_⟩
  obtain ⟨β, ν, hr⟩ := hr
  have hb4' := blt_lt hb4
  have ho' := blt_lt ho4
  rw [ovr_two hne']
  have hto : t o1 = .arr u e sz by_ f z xs := by rw [hk o1 (by simp), hb1]
  have htb : t ob = .box ub c := by rw [hk ob (by simp), hb]
  have hlo : live (t o1) = true := by rw [hto]; rfl
  have hlb : live (t ob) = true := by rw [htb]; rfl
  have hs : ∀ j, j ≠ o1 → j ≠ ob → upd (upd t o1 (.dead u)) ob (.box ub (c.set off (.val (.list sz f z xs)))) j = t j := fun j h1 h2 => by rw [upd_ne _ _ h2, upd_ne _ _ h1]
  have hso : upd (upd t o1 (.dead u)) ob (.box ub (c.set off (.val (.list sz f z xs)))) o1 = .dead u := by rw [upd_ne _ _ (Ne.symm hne'), upd_same]
  have hsb : upd (upd t o1 (.dead u)) ob (.box ub (c.set off (.val (.list sz f z xs)))) ob = .box ub (c.set off (.val (.list sz f z xs))) := upd_same ..
  have hlv : ∀ j, live (upd (upd t o1 (.dead u)) ob (.box ub (c.set off (.val (.list sz f z xs)))) j) = true → j ≠ o1 ∧ live (t j) = true := by
    intro j hj
    have h1 : j ≠ o1 := by rintro rfl; rw [hso] at hj; cases hj
    refine ⟨h1, ?_⟩
    by_cases h2 : j = ob
    · subst h2; exact hlb
    · rw [hs j h1 h2] at hj; exact hj
  have hgoes : Goes t (upd (upd t o1 (.dead u)) ob (.box ub (c.set off (.val (.list sz f z xs))))) β β ν ν := by
    intro j m hm
    by_cases e1 : j = o1
    · subst e1
      rw [hto] at hm
      simp only [ver, Option.some.injEq] at hm
      exact ⟨u, by rw [hso]; rfl, by omega, fun _ hl => by rw [hso] at hl; cases hl⟩
    · by_cases e2 : j = ob
      · subst e2
        rw [htb] at hm
        exact ⟨m, by rw [hsb]; exact hm, Nat.le_refl _, fun _ _ => ⟨hlb, rfl, rfl⟩⟩
      · exact ⟨m, by rw [hs j e1 e2]; exact hm, Nat.le_refl _, fun _ hl => ⟨(hlv j hl).2, rfl, rfl⟩⟩
  have hok : ∀ b, okAt X t β w b → okAt X (upd (upd t o1 (.dead u)) ob (.box ub (c.set off (.val (.list sz f z xs))))) β w b ∧ w.heap[b]? = w.heap[b]? :=
    fun b hb' => ⟨⟨hb'.1, hb'.2.1, fun j hl => hb'.2.2 j (hlv j hl).2⟩, rfl⟩
  have hob := hr.obj ob
  rw [htb] at hob
  obtain ⟨b0, cs, ty, g1, g2, g3, g4⟩ := hob
  have hoo := hr.obj o1
  rw [hto] at hoo
  obtain ⟨cells, q1, q2, q3, q4, q4', q5, q6⟩ := hoo
  obtain ⟨v, hv1, hv2⟩ := VR_nth c off g4 (blt_lt hi)
  rw [hx] at hv2
  obtain ⟨v', k, e1, h1, h2, h3⟩ := hv2
  simp only [List.cons.injEq, and_true] at e1
  subst e1
  rw [hto] at h1
  simp only [ver, Option.some.injEq] at h1
  have hvν := h3 h1 hlo
  rw [← hvν] at q1 q2
  refine ⟨β, ν, hr.move rfl rfl ⟨rfl, Nat.le_refl _⟩ (Nat.le_refl _) (fun _ _ _ => rfl) hok hgoes ?_ ?_ ?_ ?_ ?_ rfl rfl (fun hv => .inl (hs _ (by intro e; rw [e, hso] at hv; cases hv) (by intro e; rw [e, hsb] at hv; cases hv)))⟩
  · intro j b hl hb'; exact .inl ⟨(hlv j hl).2, hb'⟩
  · intro j j' b hl hl' h1 h2; exact hr.inj j j' b (hlv j hl).2 (hlv j' hl').2 h1 h2
  · intro j hl
    by_cases e2 : j = ob
    · subst e2
      right
      rw [hsb]
      refine ⟨b0, cs, ty, g1, g2, g3, ?_⟩
      have hread : VR P (okAt X (upd (upd t o1 (.dead u)) j (.box ub (c.set off (.val (.list sz f z xs))))) β w) w (upd (upd t o1 (.dead u)) j (.box ub (c.set off (.val (.list sz f z xs))))) β ν (.val (.list sz f z xs)) [v] := by
        refine ⟨v, rfl, row_reads (t := t) q1 rfl (fun b hb' => (hok b hb').1) (fun b hb' => ?_) q5 q4' q6⟩
        have hβ : β o1 = some b := by rw [q2]; exact hb'
        have hw := hr.own o1 b hlo hβ
        refine ⟨.inr hw.1, hw.2, fun j' hl' hj' => ?_⟩
        exact (hlv j' hl').1 (hr.inj j' o1 b (hlv j' hl').2 hlo hj' hβ)
      have := VR_set c off (.val (.list sz f z xs)) v (VR_mono hok (Nat.le_refl _) hgoes _ g4) (blt_lt hi) hread
      have e3 : cs.toList.set off v = cs.toList := by
        apply List.ext_getElem?
        intro i
        rw [List.getElem?_set]
        split
        · rename_i e; subst e; split
          · exact hv1.symm
          · rename_i hlt; rw [List.getElem?_eq_none (by omega)]
        · rfl
      rw [e3] at this
      exact this
    · exact .inl ⟨hs j (hlv j hl).1 e2, rfl, rfl, fun _ _ => rfl⟩
  · intro j hj; exact .inl ⟨hs j (by omega) (by omega), rfl⟩
  · intro j hj; rw [hs j (by omega) (by omega)]; exact hr.keys j hj

/-- The nil slice in a variable's cell, as a row of the call's own. -/
theorem g_adoptB {ob ub off o1 : Nat} {c : AV} (e sz by_ : Nat) {α : Type} (f : α → D) (z : α) (h0 : Nat.blt 0 sz = true) (ho4 : Nat.blt 9999 o1 = true) (hb4 : Nat.blt 9999 ob = true) (hne : Nat.beq ob o1 = false) (hb : s ob = .box ub c) (hi : Nat.blt off c.len = true) (hx : c.nth off = .emp) :
    GLe P ([o1, ob], [ob, o1]) s (upd (upd s o1 (.arr (newVer (s o1)) e sz by_ f z [])) ob (.box ub (c.set off (.row o1 (newVer (s o1)))))) := by
  have hne' : ob ≠ o1 := by rintro rfl; simp at hne
  refine ⟨off_two, fun X t a w hk hr => ?_⟩
  obtain ⟨β, ν, hr⟩ := hr
  have hb4' := blt_lt hb4
  have ho' := blt_lt ho4
  rw [ovr_two hne']
  have hto : t o1 = s o1 := hk o1 (by simp)
  rw [← hto]
  have htb : t ob = .box ub c := by rw [hk ob (by simp), hb]
  have hlb : live (t ob) = true := by rw [htb]; rfl
  generalize hT : upd (upd t o1 (.arr (newVer (t o1)) e sz by_ f z [])) ob (.box ub (c.set off (.row o1 (newVer (t o1))))) = T
  have hs : ∀ j, j ≠ o1 → j ≠ ob → T j = t j := fun j h1 h2 => by rw [← hT, upd_ne _ _ h2, upd_ne _ _ h1]
  have hso : T o1 = .arr (newVer (t o1)) e sz by_ f z [] := by rw [← hT, upd_ne _ _ (Ne.symm hne'), upd_same]
  have hsb : T ob = .box ub (c.set off (.row o1 (newVer (t o1)))) := by rw [← hT, upd_same]
  have hlv : ∀ j, live (T j) = true → j ≠ o1 → live (t j) = true := by
    intro j hj h1
    by_cases h2 : j = ob
    · subst h2; exact hlb
    · rw [hs j h1 h2] at hj; exact hj
  have hβn : ∀ j, j ≠ o1 → updF β o1 none j = β j ∧ updF ν o1 (.slice none 0 0) j = ν j := fun j h => ⟨updF_ne _ _ h, updF_ne _ _ h⟩
  have hgoes : Goes t T β (updF β o1 none) ν (updF ν o1 (.slice none 0 0)) := by
    intro j m hm
    by_cases e1 : j = o1
    · subst e1
      refine ⟨newVer (t j), by rw [hso]; rfl, Nat.le_of_lt (newVer_gt hm), fun h => ?_⟩
      have := newVer_gt hm
      omega
    · obtain ⟨n1, n2⟩ := hβn j e1
      by_cases e2 : j = ob
      · subst e2
        rw [htb] at hm
        exact ⟨m, by rw [hsb]; exact hm, Nat.le_refl _, fun _ _ => ⟨hlb, n1, n2⟩⟩
      · exact ⟨m, by rw [hs j e1 e2]; exact hm, Nat.le_refl _, fun _ hl => ⟨hlv j hl e1, n1, n2⟩⟩
  have hok : ∀ b, okAt X t β w b → okAt X T (updF β o1 none) w b ∧ w.heap[b]? = w.heap[b]? := by
    intro b hb'
    refine ⟨⟨hb'.1, hb'.2.1, fun j hl h => ?_⟩, rfl⟩
    by_cases e1 : j = o1
    · subst e1; rw [updF_same] at h; cases h
    · rw [(hβn j e1).1] at h
      exact hb'.2.2 j (hlv j hl e1) h
  have hob := hr.obj ob
  rw [htb] at hob
  obtain ⟨b0, cs, ty, g1, g2, g3, g4⟩ := hob
  obtain ⟨v, hv1, hv2⟩ := VR_nth c off g4 (blt_lt hi)
  rw [hx] at hv2
  simp only [VR, List.cons.injEq, and_true] at hv2
  subst hv2
  refine ⟨updF β o1 none, updF ν o1 (.slice none 0 0), hr.move rfl rfl ⟨rfl, Nat.le_refl _⟩ (Nat.le_refl _) (fun _ _ _ => rfl) hok hgoes ?_ ?_ ?_ ?_ ?_ rfl rfl (fun hv => .inl (hs _ (by intro e; rw [e, hso] at hv; cases hv) (by intro e; rw [e, hsb] at hv; cases hv)))⟩
  · intro j b hl hb'
    by_cases e1 : j = o1
    · subst e1; rw [updF_same] at hb'; cases hb'
    · rw [(hβn j e1).1] at hb'; exact .inl ⟨hlv j hl e1, hb'⟩
  · intro j j' b hl hl' h1 h2
    by_cases e1 : j = o1
    · subst e1; rw [updF_same] at h1; cases h1
    · by_cases e2 : j' = o1
      · subst e2; rw [updF_same] at h2; cases h2
      · rw [(hβn j e1).1] at h1
        rw [(hβn j' e2).1] at h2
        exact hr.inj j j' b (hlv j hl e1) (hlv j' hl' e2) h1 h2
  · intro j hl
    by_cases e1 : j = o1
    · subst e1
      right
      rw [hso]
      refine ⟨[], by rw [updF_same]; exact World.ownsRow_nil w 0 e sz, by rw [updF_same, updF_same]; rfl, blt_lt h0, by simp, by simp, by simp, fun i hi' => absurd hi' (Nat.not_lt_zero i)⟩
    · by_cases e2 : j = ob
      · subst e2
        right
        rw [hsb]
        refine ⟨b0, cs, ty, by rw [(hβn j e1).1]; exact g1, g2, g3, ?_⟩
        have hread : VR P (okAt X T (updF β o1 none) w) w T (updF β o1 none) (updF ν o1 (.slice none 0 0)) (.row o1 (newVer (t o1))) [.slice none 0 0] :=
          ⟨_, newVer (t o1), rfl, by rw [hso]; rfl, Nat.le_refl _, fun _ _ => (updF_same ..).symm⟩
        have := VR_set c off (.row o1 (newVer (t o1))) (.slice none 0 0) (VR_mono hok (Nat.le_refl _) hgoes _ g4) (blt_lt hi) hread
        have e3 : cs.toList.set off (.slice none 0 0) = cs.toList := by
          apply List.ext_getElem?
          intro i
          rw [List.getElem?_set]
          split
          · rename_i e; subst e; split
            · exact hv1.symm
            · rename_i hlt; rw [List.getElem?_eq_none (by omega)]
          · rfl
        rw [e3] at this
        exact this
      · obtain ⟨n1, n2⟩ := hβn j e1
        exact .inl ⟨hs j e1 e2, n1, n2, fun _ _ => rfl⟩
  · intro j hj; exact .inl ⟨hs j (by omega) (by omega), rfl⟩
  · intro j hj; rw [hs j (by omega) (by omega)]; exact hr.keys j hj
end
end Go.Um
