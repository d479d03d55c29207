/- Plain facts: what is seen of models. No condition. -/
import Derived.Test.YtofonmfoificjaaSpG
import Derived.Test.YtofonmfoificjaaSpJ
namespace Go.Um
namespace Sp

theorem nodup_le {α : Type} [DecidableEq α] : ∀ (l m : List α), l.Nodup → (∀ x ∈ l, x ∈ m) → l.length ≤ m.length
  | [], m, _, _ => Nat.zero_le _
  | x :: l, m, hn, hs => by
    rw [List.nodup_cons] at hn
    have h1 := nodup_le l (m.erase x) hn.2 (fun y hy => (List.mem_erase_of_ne (fun (e : y = x) => hn.1 (e ▸ hy))).2 (hs y (List.mem_cons_of_mem _ hy)))
    have h2 := hs x (List.mem_cons_self ..)
    have h3 := List.length_erase_of_mem h2
    have h4 := List.length_pos_of_mem h2
    simp only [List.length_cons]
    omega

theorem keyTo_inj {vars : List Int} {a b : List Bool} : ∀ (j : Nat), j ≤ vars.length → keyTo vars a j = keyTo vars b j → ∀ v ∈ vars.take j, a.getD (v - 1).toNat false = b.getD (v - 1).toNat false
  | 0, _, _ => by simp
  | j + 1, hj, h => by
    have h1 := keyTo_lt vars a j
    rw [keyTo, keyTo] at h
    have h2 : keyTo vars a j = keyTo vars b j ∧ a.getD (vars.getD j 0 - 1).toNat false = b.getD (vars.getD j 0 - 1).toNat false := by
      cases ha : a.getD (vars.getD j 0 - 1).toNat false <;> cases hb : b.getD (vars.getD j 0 - 1).toNat false <;> rw [ha, hb] at h <;> (try simp only [Bool.toNat_true, Bool.toNat_false] at h) <;> refine ⟨by omega, ?_⟩ <;> first | rfl | omega
    intro v hv
    rw [take_getD vars j 0 (by omega)] at hv
    rcases List.mem_append.1 hv with hv | hv
    · exact keyTo_inj j (by omega) h2.1 v hv
    · rw [List.mem_singleton.1 hv]; exact h2.2

theorem key_inj {vars : List Int} {a b : List Bool} (h : key vars a = key vars b) : ∀ v ∈ vars, a.getD (v - 1).toNat false = b.getD (v - 1).toNat false := by
  have := keyTo_inj vars.length (Nat.le_refl _) h
  rwa [List.take_length] at this

theorem seen_at {m : Nat} {vars : List Int} {l : List Nat} {j : Nat} (hj : j < 2 ^ vars.length) : (seenL m vars l).getD j false = l.any fun (i : Nat) => decide (key vars (bits m i) = j) := by
  simp [seenL, List.getD, hj]

theorem proj_mem {m : Nat} {ls : List (List Int)} {vars : List Int} {j : Nat} : j ∈ proj m ls vars ↔ ∃ i ∈ mods m ls, key vars (bits m i) = j := by
  unfold proj trueTo
  rw [List.mem_filter, List.mem_range]
  constructor
  · rintro ⟨h1, h2⟩
    rw [seen_at h1, List.any_eq_true] at h2
    obtain ⟨i, hi, h⟩ := h2
    exact ⟨i, hi, of_decide_eq_true h⟩
  · rintro ⟨i, hi, rfl⟩
    have h1 : key vars (bits m i) < 2 ^ vars.length := keyTo_lt ..
    exact ⟨h1, by rw [seen_at h1, List.any_eq_true]; exact ⟨i, hi, decide_eq_true rfl⟩⟩

theorem proj_nodup (m : Nat) (ls : List (List Int)) (vars : List Int) : (proj m ls vars).Nodup := List.Pairwise.filter _ List.nodup_range
theorem mods_nodup (m : Nat) (ls : List (List Int)) : (mods m ls).Nodup := List.Pairwise.filter _ List.nodup_range
theorem mods_lt {m : Nat} {ls : List (List Int)} {i : Nat} (h : i ∈ mods m ls) : i < 2 ^ m := List.mem_range.1 (List.mem_filter.1 h).1

theorem proj_le (m : Nat) (ls : List (List Int)) (vars : List Int) : (proj m ls vars).length ≤ (mods m ls).length := by
  have := nodup_le _ ((mods m ls).map fun (i : Nat) => key vars (bits m i)) (proj_nodup m ls vars) (fun j hj => by
    obtain ⟨i, hi, h⟩ := proj_mem.1 hj
    exact List.mem_map.2 ⟨i, hi, h⟩)
  simpa using this

/-! ### All variables -/

theorem upto_take {m j : Nat} (h : j ≤ m) : (upto m).take j = upto j := by
  unfold upto
  rw [← List.map_take, List.take_range, Nat.min_eq_left h]

theorem upto_succ (j : Nat) : upto (j + 1) = upto j ++ [(j : Int) + 1] := by simp [upto, List.range_succ]

theorem bits_getD {m i q : Nat} (hq : q < m) : (bits m i).getD q false = decide (i / 2 ^ (m - 1 - q) % 2 = 1) := by
  simp only [bits, List.getD_eq_getElem?_getD, List.getElem?_map, List.getElem?_range hq, Option.map_some, Option.getD_some]
  congr 1
  have e : ((i : Int) / 2 ^ (m - 1 - q) % 2 = 1) = ((((i / 2 ^ (m - 1 - q) % 2 : Nat)) : Int) = ((1 : Nat) : Int)) := by
    rw [Int.natCast_emod, Int.natCast_ediv, Int.natCast_pow]
    rfl
  rw [e, Int.ofNat_inj]

theorem keyTo_upto {m i : Nat} (hi : i < 2 ^ m) : ∀ j, j ≤ m → keyTo (upto m) (bits m i) j = i / 2 ^ (m - j)
  | 0, _ => by rw [keyTo, Nat.sub_zero, Nat.div_eq_of_lt hi]
  | j + 1, hj => by
    have e : ((upto m).getD j 0 - 1).toNat = j := by rw [upto_getD (by omega)]; omega
    rw [keyTo, keyTo_upto hi j (by omega), e, bits_getD (by omega)]
    have h2 : m - j = (m - (j + 1)) + 1 := by omega
    have h3 : m - 1 - j = m - (j + 1) := by omega
    rw [h2, h3, Nat.pow_succ, ← Nat.div_div_eq_div_mul]
    generalize i / 2 ^ (m - (j + 1)) = q
    by_cases h : q % 2 = 1
    · simp only [h, decide_true, Bool.toNat_true]; omega
    · simp only [h, decide_false, Bool.toNat_false]; omega

theorem key_upto {m i : Nat} (hi : i < 2 ^ m) : key (upto m) (bits m i) = i := by
  rw [key, upto_len, keyTo_upto hi m (Nat.le_refl _), Nat.sub_self, Nat.pow_zero, Nat.div_one]

theorem keyTo_congr {vars : List Int} {a b : List Bool} (h : ∀ v ∈ vars, a.getD (v - 1).toNat false = b.getD (v - 1).toNat false) : ∀ j, j ≤ vars.length → keyTo vars a j = keyTo vars b j
  | 0, _ => rfl
  | j + 1, hj => by rw [keyTo, keyTo, keyTo_congr h j (by omega), h _ (getD_mem vars j 0 (by omega))]
theorem bits_inj1 {m i j : Nat} (hi : i < 2 ^ m) (hj : j < 2 ^ m) (h : ∀ q, q < m → (bits m i).getD q false = (bits m j).getD q false) : i = j := by
  rw [← key_upto hi, ← key_upto hj]
  refine keyTo_congr (fun v hv => h _ ?_) _ (Nat.le_refl _)
  have := upto_mem.1 hv
  omega

/-- The variables that do not stand in a list. -/
def others (m : Nat) (vars : List Int) : List Int := (upto m).filter fun v => !decide (v ∈ vars)

theorem others_len {m : Nat} {vars : List Int} (h1 : ∀ v ∈ vars, 1 ≤ v ∧ v ≤ m) (h2 : vars.Pairwise fun x y => x ≠ y) : (others m vars).length + vars.length = m := by
  have hn : (upto m).Nodup := (upto_inc m).imp (fun h => by omega)
  have hp : ((upto m).filter fun v => decide (v ∈ vars)).Perm vars := by
    refine (List.perm_ext_iff_of_nodup (List.Pairwise.filter _ hn) h2).2 (fun v => ?_)
    rw [List.mem_filter, upto_mem, decide_eq_true_eq]
    exact ⟨fun h => h.2, fun h => ⟨h1 v h, h⟩⟩
  have h3 := filter_halves (fun _ => true) (fun v => decide (v ∈ vars)) (upto m)
  simp only [Bool.true_and] at h3
  have h4 : (upto m).filter (fun _ => true) = upto m := by simp
  rw [h4, upto_len] at h3
  rw [← hp.length_eq]
  unfold others
  omega

theorem bits_same {m : Nat} {i j : Nat} {vars : List Int} (hi : i < 2 ^ m) (hj : j < 2 ^ m) (h1 : key vars (bits m i) = key vars (bits m j)) (h2 : key (others m vars) (bits m i) = key (others m vars) (bits m j)) : i = j := by
  refine bits_inj1 hi hj (fun q hq => ?_)
  have k1 := key_inj h1
  have k2 := key_inj h2
  have e : ((q : Int) + 1 - 1).toNat = q := by omega
  by_cases h : (q : Int) + 1 ∈ vars
  · have := k1 _ h; rwa [e] at this
  · have := k2 ((q : Int) + 1) (List.mem_filter.2 ⟨upto_mem.2 (by omega), by simp [h]⟩); rwa [e] at this

theorem pairs_nodup {α β : Type} {l : List α} {f : α → β} (hn : l.Nodup) (h : ∀ x ∈ l, ∀ y ∈ l, f x = f y → x = y) : (l.map f).Nodup := by
  show (l.map f).Pairwise _
  rw [List.pairwise_map]
  exact List.Pairwise.imp_of_mem (fun {a b} ha hb (hne : a ≠ b) e => hne (h a ha b hb e)) hn

theorem prod_len {α β : Type} (l : List α) (m : List β) : (l.flatMap fun x => m.map fun y => (x, y)).length = l.length * m.length := by
  induction l with
  | nil => simp
  | cons x l ih => rw [List.flatMap_cons, List.length_append, ih, List.length_map, List.length_cons, Nat.succ_mul, Nat.add_comm]

theorem mods_le {m : Nat} {ls : List (List Int)} {vars : List Int} (h1 : ∀ v ∈ vars, 1 ≤ v ∧ v ≤ m) (h2 : vars.Pairwise fun x y => x ≠ y) : (mods m ls).length ≤ (proj m ls vars).length * 2 ^ (m - vars.length) := by
  have ho := others_len h1 h2
  have := nodup_le _ ((proj m ls vars).flatMap fun x => (List.range (2 ^ (m - vars.length))).map fun y => (x, y)) (pairs_nodup (f := fun (i : Nat) => (key vars (bits m i), key (others m vars) (bits m i))) (mods_nodup m ls) (fun i hi j hj e => by
    simp only [Prod.mk.injEq] at e
    exact bits_same (mods_lt hi) (mods_lt hj) e.1 e.2)) (fun p hp => by
    obtain ⟨i, hi, rfl⟩ := List.mem_map.1 hp
    refine List.mem_flatMap.2 ⟨_, proj_mem.2 ⟨i, hi, rfl⟩, List.mem_map.2 ⟨_, List.mem_range.2 ?_, rfl⟩⟩
    rw [show m - vars.length = (others m vars).length by omega]
    exact keyTo_lt ..)
  rwa [List.length_map, prod_len, List.length_range] at this

theorem proj_upto (m : Nat) (ls : List (List Int)) : proj m ls (upto m) = mods m ls := by
  unfold proj trueTo
  rw [upto_len]
  unfold mods modsTo
  refine List.filter_congr (fun j hj => ?_)
  have hj := List.mem_range.1 hj
  rw [seen_at (by rw [upto_len]; exact hj)]
  rw [Bool.eq_iff_iff, List.any_eq_true]
  constructor
  · rintro ⟨i, hi, h⟩
    have hk := of_decide_eq_true h
    rw [key_upto (mods_lt hi)] at hk
    subst hk
    exact (List.mem_filter.1 hi).2
  · intro h
    exact ⟨j, List.mem_filter.2 ⟨List.mem_range.2 hj, h⟩, decide_eq_true (key_upto hj)⟩

theorem upto_ok (m : Nat) : varsW m (upto m) = (0, 0) := by
  have h : (wrong m (upto m)).1 = 0 := by
    rw [wrong_iff]
    refine ⟨fun x hx => by have := upto_mem.1 hx; omega, ?_⟩
    refine List.Pairwise.imp_of_mem (fun {a b} ha hb (hab : a < b) => ?_) (upto_inc m)
    have h1 := upto_mem.1 ha
    have h2 := upto_mem.1 hb
    unfold av
    omega
  have hl : listed m (upto m) = (0, 0) := by rw [listed, if_neg (fun h2 => h2 h)]
  have hn : neg0 (upto m) = -1 := idx_none (fun y hy => decide_eq_false (by have := upto_mem.1 hy; omega))
  rw [varsW, hl, hn]
  rfl

theorem onto_upto {m : Nat} {ls : List (List Int)} (h : (tryW m ls).1 = 0) : onto m ls (upto m) = (asg m (mods m ls), (0, 0)) := by
  rw [onto, if_neg (fun h2 => h2 h), upto_ok, if_neg (fun h2 => h2 rfl), upto_len, Int.toNat_natCast, proj_upto]

theorem onto_ok {n : Int} {ls : List (List Int)} {vars : List Int} (h : (onto n ls vars).2.1 = 0) : (tryW n ls).1 = 0 ∧ (varsW n vars).1 = 0 ∧ onto n ls vars = (asg vars.length (proj n.toNat ls vars), (0, 0)) := by
  unfold onto at h ⊢
  split at h
  · rename_i h1; exact absurd h h1
  · split at h
    · rename_i h1; exact absurd h h1
    · rename_i h1 h2
      rw [if_neg h1, if_neg h2]
      exact ⟨Classical.not_not.1 h1, Classical.not_not.1 h2, rfl⟩
theorem onto_bad {n : Int} {ls : List (List Int)} {vars : List Int} (h : (onto n ls vars).2.1 ≠ 0) : (onto n ls vars).1 = [] := by
  unfold onto at h ⊢
  split
  · rfl
  · split
    · rfl
    · rename_i h1 h2
      rw [if_neg h1, if_neg h2] at h
      exact absurd rfl h

theorem few_law {m : Nat} {ls : List (List Int)} {vars : List Int} (h : (tryW m ls).1 = 0) (hv : (varsW m vars).1 = 0) :
    (count m ls).2.1 = 0 ∧ (onto m ls (upto m)).2.1 = 0 ∧ (models m ls 65536).2.1 = 0 ∧ ((onto m ls (upto m)).1.length : Int) = (count m ls).1 ∧ ((models m ls 65536).1.length : Int) = (count m ls).1 ∧ ((onto m ls vars).1.length : Int) ≤ (count m ls).1 ∧
    (count m ls).1 ≤ ((onto m ls vars).1.length : Int) * (1 * 2 ^ ((m : Int) - (vars.length : Int)).toNat) ∧ ((-9223372036854775808 : Int) ≤ 1 * 2 ^ ((m : Int) - (vars.length : Int)).toNat ∧ (1 : Int) * 2 ^ ((m : Int) - (vars.length : Int)).toNat ≤ 9223372036854775807) ∧
    ((-9223372036854775808 : Int) ≤ ((onto m ls vars).1.length : Int) * (1 * 2 ^ ((m : Int) - (vars.length : Int)).toNat) ∧ ((onto m ls vars).1.length : Int) * (1 * 2 ^ ((m : Int) - (vars.length : Int)).toNat) ≤ 9223372036854775807) ∧
    (onto m ls (upto m)).1 = (models m ls 65536).1 := by
  have hk := tryW_ok h
  have hp := pow16 (n := m) (by omega)
  have hm := mods_len m ls
  have hvo := vars_ok hv
  have e1 : count m ls = (((mods m ls).length : Int), (0, 0)) := by rw [count, if_neg (fun h2 => h2 h), Int.toNat_natCast]
  have e2 := onto_upto h
  have e3 : models m ls 65536 = (asg m (mods m ls), (0, 0)) := by
    rw [models, if_neg (fun h2 => h2 h), if_neg (by decide), Int.toNat_natCast, List.take_of_length_le (by show _ ≤ 65536; omega)]
  have e4 : onto m ls vars = (asg vars.length (proj m ls vars), (0, 0)) := by rw [onto, if_neg (fun h2 => h2 h), if_neg (fun h2 => h2 hv), Int.toNat_natCast]
  have h1 := proj_le m ls vars
  have h2 := mods_le (ls := ls) hvo.1 hvo.2.2
  have h3 : 2 ^ (m - vars.length) ≤ 65536 := pow16 (by omega)
  obtain ⟨q, hq⟩ : ∃ q : Nat, 2 ^ (m - vars.length) = q := ⟨_, rfl⟩
  obtain ⟨z, hz⟩ : ∃ z : Int, (1 : Int) * 2 ^ ((m : Int) - (vars.length : Int)).toNat = z := ⟨_, rfl⟩
  have e5 : z = (q : Int) := by
    rw [← hz, ← hq, show ((m : Int) - (vars.length : Int)).toNat = m - vars.length by omega]
    simp
  rw [hq] at h2 h3
  have h4 : (proj m ls vars).length * q ≤ 65536 * 65536 := Nat.mul_le_mul (by omega) h3
  rw [hz, e5, e1, e2, e3, e4]
  simp only [asg_len]
  rw [← Int.natCast_mul]
  refine ⟨trivial, trivial, trivial, trivial, trivial, by omega, by omega, by omega, by omega, trivial⟩

end Sp
end Go.Um
