/- Plain law: steps that are left out. No program in sight. No condition. -/
import Derived.Test.YtfjafkocejoigaaGreatTr1
namespace Go.Um
namespace Sp
abbrev Cq := List Int × List Int
def czS (l : List (List Int)) (L W : List Int) (k : Nat) (q : Cq) : Cq :=
  if W.getD k 0 < 0 ∨ av (L.getD k 0) ∉ q.2 then q else (q.1 ++ [W.getD k 0], q.2 ++ (l.getD (W.getD k 0).toNat []).map av)
def czk (l : List (List Int)) (L W : List Int) : Nat → Cq → Cq
  | 0, q => q
  | k + 1, q => czk l L W k (czS l L W k q)
theorem czS_skip {l : List (List Int)} {L W : List Int} {k : Nat} {q : Cq} (h : W.getD k 0 < 0 ∨ av (L.getD k 0) ∉ q.2) : czS l L W k q = q := if_pos h
theorem czS_go {l : List (List Int)} {L W : List Int} {k : Nat} {q : Cq} (h : ¬ (W.getD k 0 < 0 ∨ av (L.getD k 0) ∉ q.2)) : czS l L W k q = (q.1 ++ [W.getD k 0], q.2 ++ (l.getD (W.getD k 0).toNat []).map av) := if_neg h
def causes (l : List (List Int)) (i : Nat) : List Int :=
  if (trOn (l.take i) (l.getD i [])).2.2 < 0 then [] else
    (czk l (trOn (l.take i) (l.getD i [])).1 (trOn (l.take i) (l.getD i [])).2.1 (trOn (l.take i) (l.getD i [])).1.length ([(trOn (l.take i) (l.getD i [])).2.2], (l.getD (trOn (l.take i) (l.getD i [])).2.2.toNat []).map av)).1
theorem czk_sub {l : List (List Int)} {L W : List Int} : ∀ (k : Nat) (q : Cq), (∀ x ∈ q.1, x ∈ (czk l L W k q).1)
  | 0, _, x, h => h
  | k + 1, q, x, h => by
    rw [czk]
    refine czk_sub k _ x ?_
    unfold czS
    split
    · exact h
    · exact List.mem_append_left _ h
theorem czk_rng {l : List (List Int)} {L W : List Int} {P : Int → Prop} : ∀ (k : Nat) (q : Cq), (∀ j, j < k → ¬ W.getD j 0 < 0 → P (W.getD j 0)) → (∀ x ∈ q.1, P x) → ∀ x ∈ (czk l L W k q).1, P x
  | 0, _, _, h => h
  | k + 1, q, hW, h => by
    rw [czk]
    refine czk_rng k _ (fun j hj => hW j (by omega)) ?_
    unfold czS
    split
    · exact h
    · rename_i hn
      intro x hx
      rcases List.mem_append.1 hx with hx | hx
      · exact h x hx
      · rw [List.mem_singleton.1 hx]; exact hW k (by omega) (fun h => hn (.inl h))
theorem czk_T {l : List (List Int)} {c L W : List Int} {i : Nat} (hi : i ≤ l.length) (hrd : Rd (l.take i) c L W) {T : List Int} (hd : ∀ j, j < c.length → L.getD j 0 ∈ T) : ∀ (k : Nat) (q : Cq), k ≤ L.length →
    (∀ w ∈ (czk l L W k q).1, ∀ x ∈ l.getD w.toNat [], (∀ y ∈ l.getD w.toNat [], y ≠ x → -y ∈ T) → x ∈ T) → ∀ j, j < k → av (L.getD j 0) ∈ q.2 → L.getD j 0 ∈ T
  | 0, _, _, _, j, hj, _ => absurd hj (Nat.not_lt_zero j)
  | k + 1, q, hk, hS, j, hj, hv => by
    rw [czk] at hS
    have ih := czk_T hi hrd hd k (czS l L W k q) (by omega) hS
    have hsub : ∀ v ∈ q.2, v ∈ (czS l L W k q).2 := by
      intro v hv
      unfold czS
      split
      · exact hv
      · exact List.mem_append_left _ hv
    by_cases e : j < k
    · exact ih j e (hsub _ hv)
    obtain rfl : j = k := by omega
    by_cases hdc : j < c.length
    · exact hd j hdc
    obtain ⟨w0, w1⟩ := hrd.rng j (by omega) (by omega)
    rw [List.length_take] at w1
    have hgo : ¬ (W.getD j 0 < 0 ∨ av (L.getD j 0) ∉ q.2) := fun h => h.elim (fun h => by omega) (fun h => h hv)
    have hin : W.getD j 0 ∈ (czk l L W j (czS l L W j q)).1 := czk_sub j _ _ (by rw [czS_go hgo]; exact List.mem_append_right _ (List.mem_singleton.2 rfl))
    have hA : (l.take i).getD (W.getD j 0).toNat [] = l.getD (W.getD j 0).toNat [] := by
      rw [List.getD_eq_getElem?_getD, List.getElem?_take, if_pos (by omega), ← List.getD_eq_getElem?_getD]
    have hm := hrd.mem j (by omega) (by omega)
    have ho := hrd.oth j (by omega) (by omega)
    rw [hA] at hm ho
    refine hS _ hin _ hm (fun y hy hne => ?_)
    have h1 := ho y hy hne
    obtain ⟨j2, g1, g2, g3⟩ := mem_take.1 h1
    rw [← g3]
    refine ih j2 g1 ?_
    rw [czS_go hgo, g3, show av (-y) = av y by unfold av; omega]
    exact List.mem_append_right _ (List.mem_map.2 ⟨y, hy, rfl⟩)
theorem causes_ok {n : Nat} {l : List (List Int)} {i : Nat} (hi : i < l.length) (hl : ∀ c ∈ l, Okc n c) (hr : Rup (l.take i) (l.getD i [])) :
    (∀ k ∈ causes l i, 0 ≤ k ∧ k < i) ∧ ∀ ms : List (List Int), (∀ k ∈ causes l i, ∃ d ∈ ms, ∀ x, x ∈ d ↔ x ∈ l.getD k.toNat []) → Rup ms (l.getD i []) := by
  have hci := hl _ (getD_mem l i [] hi)
  have hz : Nz (l.take i) := fun d hd x hx => ((hl d (List.mem_of_mem_take hd)).1 x hx).1
  have h1 : 0 ≤ (trOn (l.take i) (l.getD i [])).2.2 := rup_falls hz (w := List.replicate ((l.getD i []).map fun x => -x).length (-1)) hr
  have hrd : Rd (l.take i) (l.getD i []) (trOn (l.take i) (l.getD i [])).1 (trOn (l.take i) (l.getD i [])).2.1 := rd_on hz (okc_nodup hci)
  have hbad : (trOn (l.take i) (l.getD i [])).2.2 = conf (l.take i) (trOn (l.take i) (l.getD i [])).1 := by
    rcases onV_end (l.take i) ((l.getD i []).map fun x => -x) (List.replicate ((l.getD i []).map fun x => -x).length (-1)) with ⟨_, h3⟩ | ⟨_, _, h3⟩
    · exact h3
    · have h3 : (trOn (l.take i) (l.getD i [])).2.2 = -1 := h3
      omega
  obtain ⟨c1, c2, c3⟩ := conf_at hz (T := (trOn (l.take i) (l.getD i [])).1) (by omega)
  rw [← hbad] at c1 c2 c3
  unfold causes
  generalize trOn (l.take i) (l.getD i []) = X at *
  rw [List.length_take] at c1
  rw [if_neg (by omega)]
  have hB : (l.take i).getD X.2.2.toNat [] = l.getD X.2.2.toNat [] := by
    rw [List.getD_eq_getElem?_getD, List.getElem?_take, if_pos (by omega), ← List.getD_eq_getElem?_getD]
  rw [hB] at c3
  refine ⟨?_, fun ms hms T hT hneg => ?_⟩
  · refine czk_rng (P := fun k => 0 ≤ k ∧ k < (i : Int)) _ _ (fun j hj hw => ?_) (fun x hx => ?_)
    · by_cases hdc : j < (l.getD i []).length
      · exact absurd (hrd.dec j hdc) hw
      · have h4 := hrd.rng j (by omega) hj
        rw [List.length_take] at h4
        omega
    · rw [List.mem_singleton.1 hx]; omega
  · have hd : ∀ j, j < (l.getD i []).length → X.1.getD j 0 ∈ T := by
      intro j hj
      have h4 : X.1.getD j 0 ∈ X.1.take (l.getD i []).length := mem_take.2 ⟨j, hj, by have := hrd.lo; omega, rfl⟩
      rw [hrd.pre] at h4
      obtain ⟨y, hy, e⟩ := List.mem_map.1 h4
      rw [← e]
      exact hneg y hy
    have hS : ∀ w ∈ (czk l X.1 X.2.1 X.1.length ([X.2.2], (l.getD X.2.2.toNat []).map av)).1, (∃ x ∈ l.getD w.toNat [], -x ∉ T) ∧ ∀ x ∈ l.getD w.toNat [], (∀ y ∈ l.getD w.toNat [], y ≠ x → -y ∈ T) → x ∈ T := by
      intro w hw
      obtain ⟨d, hd1, hd2⟩ := hms w hw
      obtain ⟨⟨x, hx, hxT⟩, h5⟩ := hT d hd1
      exact ⟨⟨x, (hd2 x).1 hx, hxT⟩, fun x hx hy => h5 x ((hd2 x).2 hx) (fun y hy2 hne => hy y ((hd2 y).1 hy2) hne)⟩
    have hall := czk_T (by omega) hrd hd X.1.length _ (Nat.le_refl _) (fun w hw => (hS w hw).2)
    obtain ⟨⟨x, hx, hxT⟩, _⟩ := hS X.2.2 (czk_sub _ _ _ (List.mem_singleton.2 rfl))
    obtain ⟨j, g1, g2⟩ := memV_getD.1 (c3 x hx)
    refine hxT ?_
    rw [← g2]
    refine hall j g1 ?_
    rw [g2, show av (-x) = av x by unfold av; omega]
    exact List.mem_map.2 ⟨x, hx, rfl⟩
def setAll (ks : List Int) (f : List Bool) : List Bool := ks.foldl (fun f k => f.set k.toNat true) f
def rqS (l : List (List Int)) (i : Nat) (f : List Bool) : List Bool := if f.getD i false = true then setAll (causes l i) f else f
def rqk (l : List (List Int)) (m : Nat) : Nat → List Bool → List Bool
  | 0, f => f
  | d + 1, f => rqk l m d (rqS l (m + d) f)
theorem setAll_len : ∀ (ks : List Int) (f : List Bool), (setAll ks f).length = f.length
  | [], _ => rfl
  | k :: ks, f => by
    show (setAll ks (f.set k.toNat true)).length = _
    rw [setAll_len ks, List.length_set]
theorem setAll_get : ∀ (ks : List Int) (f : List Bool) (j : Nat), (f.getD j false = true → (setAll ks f).getD j false = true) ∧ ((∀ k ∈ ks, k.toNat ≠ j) → (setAll ks f).getD j false = f.getD j false) ∧ ((∃ k ∈ ks, k.toNat = j) → j < f.length → (setAll ks f).getD j false = true)
  | [], f, j => ⟨fun h => h, fun _ => rfl, fun ⟨k, hk, _⟩ => (List.not_mem_nil hk).elim⟩
  | k :: ks, f, j => by
    obtain ⟨h1, h2, h3⟩ := setAll_get ks (f.set k.toNat true) j
    have e1 : (f.set k.toNat true).getD j false = true ∨ (f.set k.toNat true).getD j false = f.getD j false := by
      rw [List.getD_eq_getElem?_getD, List.getD_eq_getElem?_getD, List.getElem?_set]
      by_cases e : k.toNat = j
      · rw [if_pos e]
        by_cases e2 : k.toNat < f.length
        · rw [if_pos e2]; exact .inl rfl
        · rw [if_neg e2, List.getElem?_eq_none (by omega)]; exact .inr rfl
      · rw [if_neg e]; exact .inr rfl
    show (f.getD j false = true → (setAll ks (f.set k.toNat true)).getD j false = true) ∧ (_ → (setAll ks (f.set k.toNat true)).getD j false = _) ∧ (_ → _ → (setAll ks (f.set k.toNat true)).getD j false = true)
    refine ⟨fun h => h1 (e1.elim id (fun e => by rw [e]; exact h)), fun h => ?_, fun ⟨x, hx, hxj⟩ hj => ?_⟩
    · rw [h2 (fun x hx => h x (List.mem_cons_of_mem _ hx)), List.getD_eq_getElem?_getD, List.getElem?_set_ne (h k List.mem_cons_self), ← List.getD_eq_getElem?_getD]
    · rcases List.mem_cons.1 hx with rfl | hx
      · refine h1 ?_
        rw [List.getD_eq_getElem?_getD, hxj, List.getElem?_set_self hj]
        rfl
      · exact h3 ⟨x, hx, hxj⟩ (by rw [List.length_set]; exact hj)
theorem rqS_len (l : List (List Int)) (i : Nat) (f : List Bool) : (rqS l i f).length = f.length := by
  unfold rqS
  split
  · exact setAll_len _ _
  · rfl
theorem rqk_len (l : List (List Int)) (m : Nat) : ∀ d f, (rqk l m d f).length = f.length
  | 0, _ => rfl
  | d + 1, f => by rw [rqk, rqk_len l m d, rqS_len]
theorem rqS_up {l : List (List Int)} {i j : Nat} {f : List Bool} (h : f.getD j false = true) : (rqS l i f).getD j false = true := by
  unfold rqS
  split
  · exact (setAll_get _ f j).1 h
  · exact h
theorem rqk_up {l : List (List Int)} {m j : Nat} : ∀ (d : Nat) (f : List Bool), f.getD j false = true → (rqk l m d f).getD j false = true
  | 0, _, h => h
  | d + 1, f, h => by rw [rqk]; exact rqk_up d _ (rqS_up h)
section
variable {l : List (List Int)} {m : Nat} (hc : ∀ i, m ≤ i → i < l.length → ∀ k ∈ causes l i, 0 ≤ k ∧ k < i)
include hc
theorem rqk_hi : ∀ (d : Nat) (f : List Bool) (j : Nat), m + d ≤ l.length → m + d ≤ j + 1 → (rqk l m d f).getD j false = f.getD j false
  | 0, _, _, _, _ => rfl
  | d + 1, f, j, hl, hj => by
    rw [rqk, rqk_hi d _ j (by omega) (by omega)]
    unfold rqS
    split
    · refine (setAll_get _ f j).2.1 (fun k hk e => ?_)
      have := hc (m + d) (by omega) (by omega) k hk
      omega
    · rfl
theorem rqk_closed : ∀ (d : Nat) (f : List Bool), f.length = l.length → m + d ≤ l.length → ∀ i, m ≤ i → i < m + d → (rqk l m d f).getD i false = true → ∀ k ∈ causes l i, (rqk l m d f).getD k.toNat false = true
  | 0, _, _, _, i, h1, h2, _, _, _ => by omega
  | d + 1, f, hf, hl, i, h1, h2, hi, k, hk => by
    rw [rqk] at hi ⊢
    by_cases e : i < m + d
    · exact rqk_closed d _ (by rw [rqS_len]; exact hf) (by omega) i h1 e hi k hk
    obtain rfl : i = m + d := by omega
    rw [rqk_hi hc d _ (m + d) (by omega) (by omega)] at hi
    have hck := hc (m + d) (by omega) (by omega)
    have hfi : f.getD (m + d) false = true := by
      unfold rqS at hi
      split at hi
      · rename_i h; exact h
      · exact hi
    refine rqk_up d _ ?_
    unfold rqS
    rw [if_pos hfi]
    have := hck k hk
    exact (setAll_get _ f k.toNat).2.2 ⟨k, hk, rfl⟩ (by omega)
end
def kept (l : List (List Int)) (f : List Bool) (m i : Nat) : List (List Int) := (((List.range i).filter fun j => decide (m ≤ j) && f.getD j false).map fun j => litSort (l.getD j []))
theorem kept_yes {l : List (List Int)} {f : List Bool} {m i : Nat} (h : m ≤ i) (h2 : f.getD i false = true) : kept l f m (i + 1) = kept l f m i ++ [litSort (l.getD i [])] := by
  unfold kept
  rw [List.range_succ, List.filter_append, List.filter_cons_of_pos (by simp [h]; simpa using h2), List.filter_nil, List.map_append]
  rfl
theorem kept_no {l : List (List Int)} {f : List Bool} {m i : Nat} (h2 : f.getD i false = false) : kept l f m (i + 1) = kept l f m i := by
  unfold kept
  rw [List.range_succ, List.filter_append, List.filter_cons_of_neg (by rw [h2]; simp), List.filter_nil, List.append_nil]
theorem kept_low (l : List (List Int)) (f : List Bool) (m : Nat) : kept l f m m = [] := by
  unfold kept
  rw [List.filter_eq_nil_iff.2 (fun j hj => ?_)]
  · rfl
  · have := List.mem_range.1 hj
    rw [decide_eq_false (by omega)]
    simp
theorem kept_len (l : List (List Int)) (f : List Bool) (m : Nat) : ∀ d, (kept l f m (m + d)).length ≤ d
  | 0 => by rw [Nat.add_zero, kept_low]; exact Nat.le_refl _
  | d + 1 => by
    have h := kept_len l f m d
    cases e : f.getD (m + d) false with
    | true => rw [← Nat.add_assoc, kept_yes (by omega) e, List.length_append, List.length_singleton]; omega
    | false => rw [← Nat.add_assoc, kept_no e]; omega
theorem kept_mem {l : List (List Int)} {f : List Bool} {m i : Nat} {c : List Int} : c ∈ kept l f m i ↔ ∃ j, m ≤ j ∧ j < i ∧ f.getD j false = true ∧ litSort (l.getD j []) = c := by
  unfold kept
  rw [List.mem_map]
  constructor
  · rintro ⟨j, hj, e⟩
    obtain ⟨h1, h2⟩ := List.mem_filter.1 hj
    rw [Bool.and_eq_true, decide_eq_true_eq] at h2
    exact ⟨j, h2.1, List.mem_range.1 h1, h2.2, e⟩
  · rintro ⟨j, h1, h2, h3, e⟩
    exact ⟨j, List.mem_filter.2 ⟨List.mem_range.2 h2, by rw [Bool.and_eq_true, decide_eq_true_eq]; exact ⟨h1, h3⟩⟩, e⟩
theorem rup_perm {ls : List (List Int)} {c d : List Int} (h : Rup ls c) (hd : ∀ x, x ∈ d ↔ x ∈ c) : Rup ls d := fun T hT hn => h T hT (fun x hx => hn x ((hd x).2 hx))
def firstE (l : List (List Int)) : Int := idx (fun x => decide (x = [])) l
def flags (g l : List (List Int)) : List Bool := rqk l g.length ((firstE l).toNat + 1 - g.length) ((List.replicate l.length false).set (firstE l).toNat true)
def trimOf (g st : List (List Int)) : List (List Int) := kept (g ++ st) (flags g (g ++ st)) g.length (g ++ st).length
theorem trim_ok {n : Int} {g st : List (List Int)} (h : Taken n g st) (h0 : [] ∈ g ++ st) : Taken n g (trimOf g st) ∧ [] ∈ g ++ trimOf g st ∧ (trimOf g st).length ≤ st.length := by
  obtain ⟨nn, rfl⟩ : ∃ nn : Nat, n = nn := ⟨n.toNat, by have := (check_ok h.ck).1; omega⟩
  have hokg := check_okc h.ck
  have hoks : ∀ c ∈ st, Okc nn c := fun c hc => wrong_iff.1 (h.wr c hc).1
  have hok : ∀ c ∈ g ++ st, Okc nn c := fun c hc => (List.mem_append.1 hc).elim (hokg c) (hoks c)
  have hrup : ∀ i, g.length ≤ i → i < (g ++ st).length → Rup ((g ++ st).take i) ((g ++ st).getD i []) := by
    intro i h1 h2
    rw [List.length_append] at h2
    have h3 := h.ch (i - g.length) (by omega)
    rw [List.take_append, List.take_of_length_le h1, List.getD_eq_getElem?_getD, List.getElem?_append_right h1, ← List.getD_eq_getElem?_getD]
    exact h3
  have hcs := fun i h1 h2 => causes_ok h2 hok (hrup i h1 h2)
  have hlen : ∀ i, (kept (g ++ st) (flags g (g ++ st)) g.length i).length ≤ i - g.length := by
    intro i
    by_cases e : g.length ≤ i
    · have := kept_len (g ++ st) (flags g (g ++ st)) g.length (i - g.length)
      rwa [Nat.add_sub_cancel' e] at this
    · have : kept (g ++ st) (flags g (g ++ st)) g.length i = [] := by
        unfold kept
        rw [List.filter_eq_nil_iff.2 (fun j hj => ?_)]
        · rfl
        · have := List.mem_range.1 hj
          rw [decide_eq_false (by omega)]
          simp
      rw [this]
      exact Nat.zero_le _
  have hf0 : 0 ≤ firstE (g ++ st) := by
    refine Classical.byContradiction fun hn => ?_
    have := idxV_neg (p := fun x : List Int => decide (x = [])) (l := g ++ st) (by unfold firstE at hn; omega) [] h0
    simp at this
  obtain ⟨f1, f2⟩ := idx_mem (p := fun x : List Int => decide (x = [])) (l := g ++ st) [] (by unfold firstE at hf0; omega)
  have f1 : (firstE (g ++ st)).toNat < (g ++ st).length := f1
  have f2 : (g ++ st).getD (firstE (g ++ st)).toNat [] = [] := of_decide_eq_true f2
  generalize hF : flags g (g ++ st) = F at *
  have hgl : g.length ≤ (g ++ st).length := by rw [List.length_append]; omega
  have hzero : ((List.replicate (g ++ st).length false).set (firstE (g ++ st)).toNat true).length = (g ++ st).length := by rw [List.length_set, List.length_replicate]
  have hfl : F.getD (firstE (g ++ st)).toNat false = true := by
    rw [← hF]
    refine rqk_up _ _ ?_
    rw [List.getD_eq_getElem?_getD, List.getElem?_set_self (by rw [List.length_replicate]; exact f1)]
    rfl
  have hhi : ∀ i, g.length ≤ i → F.getD i false = true → i ≤ (firstE (g ++ st)).toNat := by
    intro i h1 h2
    refine Classical.byContradiction fun hn => ?_
    rw [← hF] at h2
    unfold flags at h2
    rw [rqk_hi (l := g ++ st) (m := g.length) (fun i h1 h2 => (hcs i h1 h2).1) ((firstE (g ++ st)).toNat + 1 - g.length) ((List.replicate (g ++ st).length false).set (firstE (g ++ st)).toNat true) i (by omega) (by omega), List.getD_eq_getElem?_getD, List.getElem?_set_ne (by omega), List.getElem?_replicate] at h2
    split at h2 <;> cases h2
  have hclo : ∀ i, g.length ≤ i → F.getD i false = true → ∀ k ∈ causes (g ++ st) i, F.getD k.toNat false = true := by
    intro i h1 h2 k hk
    have h3 := hhi i h1 h2
    rw [← hF] at h2 ⊢
    exact rqk_closed (fun i h1 h2 => (hcs i h1 h2).1) _ _ hzero (by omega) i h1 (by omega) h2 k hk
  refine ⟨⟨h.ck, ?_, ?_, ?_⟩, ?_, ?_⟩
  · have := hlen (g ++ st).length
    have h2 := h.ll
    unfold trimOf
    rw [hF]
    rw [List.length_append] at this
    rw [List.length_append]
    omega
  · intro c hc
    unfold trimOf at hc
    rw [hF] at hc
    obtain ⟨j, h1, h2, _, rfl⟩ := kept_mem.1 hc
    have h4 : (g ++ st).getD j [] ∈ st := by
      rw [List.getD_eq_getElem?_getD, List.getElem?_append_right h1, ← List.getD_eq_getElem?_getD]
      exact getD_mem st _ [] (by rw [List.length_append] at h2; omega)
    have h5 := h.wr _ h4
    exact ⟨wrong_iff.2 (okc_sort (wrong_iff.1 h5.1)), by rw [litSort_len]; exact h5.2⟩
  · -- each falls by those ahead
    have key : ∀ i, i ≤ (g ++ st).length → ∀ j, j < (kept (g ++ st) F g.length i).length → Rup (g ++ (kept (g ++ st) F g.length i).take j) ((kept (g ++ st) F g.length i).getD j []) := by
      intro i
      induction i with
      | zero => intro _ j hj; simp [kept] at hj
      | succ i ih =>
        intro hi j hj
        by_cases hm : g.length ≤ i ∧ F.getD i false = true
        · rw [kept_yes hm.1 hm.2] at hj ⊢
          rw [List.length_append, List.length_singleton] at hj
          by_cases e : j < (kept (g ++ st) F g.length i).length
          · rw [getD_leC e, List.take_append_of_le_length (by omega)]
            exact ih (by omega) j e
          · obtain rfl : j = (kept (g ++ st) F g.length i).length := by omega
            rw [getD_snocC, List.take_append_of_le_length (Nat.le_refl _), List.take_length]
            refine rup_perm ((hcs i hm.1 (by omega)).2 _ (fun k hk => ?_)) (fun x => litSort_mem)
            have hkr := (hcs i hm.1 (by omega)).1 k hk
            by_cases hkg : k.toNat < g.length
            · refine ⟨g.getD k.toNat [], List.mem_append_left _ (getD_mem g _ [] hkg), fun x => ?_⟩
              rw [getD_leC hkg]
            · exact ⟨litSort ((g ++ st).getD k.toNat []), List.mem_append_right _ (kept_mem.2 ⟨k.toNat, by omega, by omega, hclo i hm.1 hm.2 k hk, rfl⟩), fun x => litSort_mem⟩
        · have e : kept (g ++ st) F g.length (i + 1) = kept (g ++ st) F g.length i := by
            cases e2 : F.getD i false with
            | false => exact kept_no e2
            | true =>
              have hlt : i < g.length := by
                refine Classical.byContradiction fun hn => hm ⟨by omega, e2⟩
              unfold kept
              rw [List.range_succ, List.filter_append, List.filter_cons_of_neg (by rw [decide_eq_false (by omega)]; simp), List.filter_nil, List.append_nil]
          rw [e] at hj ⊢
          exact ih (by omega) j hj
    unfold trimOf
    rw [hF]
    exact key _ (Nat.le_refl _)
  · by_cases e : (firstE (g ++ st)).toNat < g.length
    · rw [getD_leC e] at f2
      exact List.mem_append_left _ (by rw [← f2]; exact getD_mem g _ [] e)
    · refine List.mem_append_right _ ?_
      unfold trimOf
      rw [hF]
      refine kept_mem.2 ⟨_, by omega, f1, hfl, ?_⟩
      rw [f2, litSort, List.mergeSort_nil]
  · have := hlen (g ++ st).length
    unfold trimOf
    rw [hF]
    rw [List.length_append] at this
    rw [List.length_append]
    omega
end Sp
end Go.Um
