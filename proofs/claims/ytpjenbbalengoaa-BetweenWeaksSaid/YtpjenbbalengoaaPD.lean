/- Plain laws: between two sets of clauses. No program in sight. No condition. -/
import Derived.Test.YtpjenbbalengoaaPC
import Derived.Test.YtpjenbbalengoaaPA
namespace Go.Um
namespace Sp

def occ (ls : List (List Int)) (v : Int) : Bool := ls.any fun l => decide (v ∈ l) || decide (-v ∈ l)
def betW (n : Int) (a : List (List Int)) (m : Int) (b : List (List Int)) : Int × Int :=
  if (check n a).1 ≠ 0 then check n a else if (check m b).1 ≠ 0 then check m b else if n ≠ m then (9, -1) else if 16 < n ∨ 400 < a.length + b.length then (2, -1) else (0, 0)
/-- What McMillan's says of a clause of the first. -/
def mcF (b : List (List Int)) (c : List Int) (x : List Bool) : Bool := c.any fun l => occ b (av l) && lit x l
theorem fill_same {α : Type} {N : Nat} {f g : Nat → α} {i : Nat} (hg : g i = f i) : fillTo N f g (i + 1) = fillTo N f g i := by
  unfold fillTo
  refine List.map_congr_left fun k _ => ?_
  by_cases h : k < i
  · rw [if_pos h, if_pos (by omega)]
  · rw [if_neg h]
    by_cases e : k = i
    · subst e
      rw [if_pos (by omega), hg]
    · rw [if_neg (by omega)]
/-- What Pudlak's says of a resolution on v. -/
def puB (a b : List (List Int)) (v : Int) (p q : List Bool → Bool) (x : List Bool) : Bool :=
  if occ b v = false then p x || q x else if occ a v = false then p x && q x else if x.getD (v - 1).toNat false = true then q x else p x
theorem bit_at {n i : Nat} {v : Int} (hv : 1 ≤ v ∧ v ≤ n) : (bits n i).getD (v - 1).toNat false = decide ((i : Int) / 2 ^ (n - v.toNat) % 2 = 1) := by
  unfold bits
  rw [List.getD_eq_getElem?_getD, List.getElem?_map, List.getElem?_range (by omega), Option.map_some, Option.getD_some, show n - 1 - (v - 1).toNat = n - v.toNat by omega]
/-- True for some values of the variables up to i that do not stand in others. -/
def someT (b : List (List Int)) (p : List Bool → Bool) : Nat → List Bool → Bool
  | 0 => p
  | i + 1 => if occ b ((i : Int) + 1) = false then some2 (someT b p i) ((i : Int) + 1) else someT b p i
def apW (n : Int) (a : List (List Int)) (m : Int) (b : List (List Int)) : Int × Int :=
  if (betW n a m b).1 ≠ 0 then betW n a m b else if decide (1 ∈ btab (fun x => all x a && all x b) n.toNat) = true then (11, 0) else (0, 0)
theorem bet_ok {n m : Int} {a b : List (List Int)} (h : (betW n a m b).1 = 0) : ∃ k : Nat, n = k ∧ m = k ∧ k ≤ 16 ∧ (check n a).1 = 0 ∧ (check m b).1 = 0 ∧ a.length + b.length ≤ 400 := by
  unfold betW at h
  by_cases h1 : (check n a).1 = 0
  · rw [if_neg (fun h2 => h2 h1)] at h
    by_cases h2 : (check m b).1 = 0
    · rw [if_neg (fun h3 => h3 h2)] at h
      by_cases h3 : n = m
      · rw [if_neg (fun h4 => h4 h3)] at h
        by_cases h4 : 16 < n ∨ 400 < a.length + b.length
        · rw [if_pos h4] at h; exact absurd h (by decide)
        · have h5 := (check_ok h1).1
          exact ⟨n.toNat, by omega, by omega, by omega, h1, h2, by omega⟩
      · rw [if_pos h3] at h; exact absurd h (by decide)
    · rw [if_pos h2] at h; exact absurd h h2
  · rw [if_pos h1] at h; exact absurd h h1
theorem ap_ok {n m : Int} {a b : List (List Int)} (h : (apW n a m b).1 = 0) : (betW n a m b).1 = 0 := by
  unfold apW at h
  by_cases h1 : (betW n a m b).1 = 0
  · exact h1
  · rw [if_pos h1] at h; exact absurd h h1
def strO (n : Int) (a : List (List Int)) (m : Int) (b : List (List Int)) : List Cho × Int × Int × Int :=
  if (apW n a m b).1 ≠ 0 then ([], 0, apW n a m b) else diaBuilt n.toNat (dtab (someT b (fun x => all x a) n.toNat) n.toNat)
def weaO (n : Int) (a : List (List Int)) (m : Int) (b : List (List Int)) : List Cho × Int × Int × Int :=
  if (apW n a m b).1 ≠ 0 then ([], 0, apW n a m b) else diaBuilt n.toNat (dtab (fun x => !someT a (fun x => all x b) n.toNat x) n.toNat)
theorem not_wrap (c : Bool) : b01 (!c) = IntKind.u8.wrap (1 - b01 c) := by cases c <;> decide
end Sp
end Go.Um

/- Plain laws: resolutions, and what they tell of two sets of clauses. No program in sight. No condition. -/


namespace Go.Um
namespace Sp

/-- A resolution: two numbers of clauses, a variable. -/
abbrev Rs := Int × Int × Int
abbrev Prd := List Bool → Bool

def resGo (v : Int) : List Int → List Int → Option (List Int)
  | out, [] => Option.some out
  | out, l :: r => if av l = v ∨ l ∈ out then resGo v out r else if -l ∈ out then none else resGo v (out ++ [l]) r
def resolve (a b : List Int) (v : Int) : Option (List Int) := (resGo v [] (a ++ b)).map litSort
def res2 (a b : List Int) (v : Int) : List Int × Int :=
  if v ∉ a ∨ -v ∉ b then ([], 5) else if (resolve a b v).isSome = true then ((resolve a b v).getD [], 0) else ([], 7)
def resOne (l : List (List Int)) (r : Rs) (n : Int) : List Int × Int :=
  if r.1 < 0 ∨ (l.length : Int) ≤ r.1 ∨ r.2.1 < 0 ∨ (l.length : Int) ≤ r.2.1 ∨ r.2.2 < 1 ∨ n < r.2.2 then ([], 3) else res2 (l.getD r.1.toNat []) (l.getD r.2.1.toNat []) r.2.2
def resF (n : Int) : List (List Int) → Int → List Rs → Int × Int
  | _, _, [] => (0, 0)
  | all, i, r :: l => if (resOne all r n).2 ≠ 0 then ((resOne all r n).2, i) else resF n (all ++ [(resOne all r n).1]) (i + 1) l
def resTo (n : Int) (g : List (List Int)) (l : List Rs) (i : Nat) : List (List Int) := (l.take i).foldl (fun all r => all ++ [(resOne all r n).1]) g
def resR (n : Int) (g : List (List Int)) (l : List Rs) : List (List Int) × Int × Int :=
  if 2000 < l.length then ([], 2, -1) else if (resF n g 0 l).1 ≠ 0 then ([], resF n g 0 l) else ((resTo n g l l.length).drop g.length, 0, 0)
def resO (n : Int) (g : List (List Int)) (l : List Rs) : List (List Int) × Int × Int := if (check n g).1 ≠ 0 then ([], check n g) else resR n g l

/-- A clause as it must be. -/
def Okc (n : Nat) (c : List Int) : Prop := Good n c ∧ c.Pairwise fun x y => av x ≠ av y

theorem pos_len : ∀ (m : Nat) (l : List Int), (∀ x ∈ l, 1 ≤ x ∧ x ≤ m) → l.Pairwise (fun x y => x ≠ y) → l.length ≤ m := by
  intro m
  induction m with
  | zero =>
    intro l h _
    cases l with
    | nil => simp
    | cons x l => have := h x (by simp); omega
  | succ m ih =>
    intro l h hp
    have hf := ih (l.filter (fun (x : Int) => decide (x ≠ ((m + 1 : Nat) : Int)))) (fun x hx => by
      simp only [List.mem_filter, decide_eq_true_eq] at hx
      have := h x hx.1
      omega) (hp.filter _)
    have hc : l.length ≤ (l.filter (fun (x : Int) => decide (x ≠ ((m + 1 : Nat) : Int)))).length + 1 := by
      clear ih hf h
      induction l with
      | nil => simp
      | cons x l ih2 =>
        rw [List.pairwise_cons] at hp
        by_cases e : x = ((m + 1 : Nat) : Int)
        · have : l.filter (fun (x : Int) => decide (x ≠ ((m + 1 : Nat) : Int))) = l := by
            rw [List.filter_eq_self]
            intro y hy
            have := hp.1 y hy
            simp only [ne_eq, decide_eq_true_eq]
            omega
          simp only [List.filter_cons, e, ne_eq, not_true_eq_false, decide_false, Bool.false_eq_true, if_false, List.length_cons]
          simp only [ne_eq] at this
          rw [this]
          exact Nat.le_refl _
        · have := ih2 hp.2
          simp only [List.filter_cons, ne_eq, e, not_false_eq_true, decide_true, if_true, List.length_cons]
          simp only [ne_eq] at this
          omega
    omega

theorem okc_len {n : Nat} {c : List Int} (h : Okc n c) : c.length ≤ n := by
  have := pos_len n (c.map av) (fun x hx => by
    obtain ⟨y, hy, rfl⟩ := List.mem_map.1 hx
    have := h.1 y hy
    unfold av
    omega) (List.pairwise_map.2 h.2)
  simpa using this

theorem av_or {x y : Int} (h : av x = av y) : x = y ∨ x = -y := by unfold av at h; omega

theorem resGo_mem {v : Int} : ∀ (r out x : List Int), resGo v out r = Option.some x → ∀ l, l ∈ x ↔ l ∈ out ∨ (l ∈ r ∧ av l ≠ v)
  | [], out, x, h => by
    simp only [resGo, Option.some.injEq] at h
    subst h
    simp
  | y :: r, out, x, h => by
    intro l
    unfold resGo at h
    by_cases h1 : av y = v ∨ y ∈ out
    · rw [if_pos h1] at h
      rw [resGo_mem r out x h l]
      constructor
      · rintro (h2 | h2)
        · exact .inl h2
        · exact .inr ⟨List.mem_cons_of_mem _ h2.1, h2.2⟩
      · rintro (h2 | ⟨h2, h3⟩)
        · exact .inl h2
        · rcases List.mem_cons.1 h2 with rfl | h2
          · rcases h1 with h1 | h1
            · exact absurd h1 h3
            · exact .inl h1
          · exact .inr ⟨h2, h3⟩
    · rw [if_neg h1] at h
      by_cases h4 : -y ∈ out
      · rw [if_pos h4] at h; cases h
      · rw [if_neg h4] at h
        rw [resGo_mem r _ x h l]
        simp only [List.mem_append, List.mem_cons, List.not_mem_nil, or_false]
        constructor
        · rintro ((h2 | rfl) | h2)
          · exact .inl h2
          · exact .inr ⟨.inl rfl, fun h => h1 (.inl h)⟩
          · exact .inr ⟨.inr h2.1, h2.2⟩
        · rintro (h2 | ⟨rfl | h2, h3⟩)
          · exact .inl (.inl h2)
          · exact .inl (.inr rfl)
          · exact .inr ⟨h2, h3⟩

theorem okc_snoc {n : Nat} {out : List Int} {y : Int} (h : Okc n out) (hy : y ≠ 0 ∧ -(n : Int) ≤ y ∧ y ≤ n) (h1 : y ∉ out) (h2 : -y ∉ out) : Okc n (out ++ [y]) := by
  refine ⟨fun x hx => ?_, List.pairwise_append.2 ⟨h.2, List.pairwise_singleton _ _, fun x hx z hz => ?_⟩⟩
  · rcases List.mem_append.1 hx with hx | hx
    · exact h.1 x hx
    · rw [List.mem_singleton.1 hx]; exact hy
  · rw [List.mem_singleton.1 hz]
    intro e
    rcases av_or e with rfl | rfl
    · exact h1 hx
    · exact h2 hx

theorem resGo_ok {n : Nat} {v : Int} : ∀ (r out x : List Int), Okc n out → Good n r → resGo v out r = Option.some x → Okc n x
  | [], out, x, ho, _, h => by
    simp only [resGo, Option.some.injEq] at h
    subst h
    exact ho
  | y :: r, out, x, ho, hr, h => by
    unfold resGo at h
    have hr' : Good n r := fun z hz => hr z (List.mem_cons_of_mem _ hz)
    by_cases h1 : av y = v ∨ y ∈ out
    · rw [if_pos h1] at h
      exact resGo_ok r out x ho hr' h
    · rw [if_neg h1] at h
      by_cases h4 : -y ∈ out
      · rw [if_pos h4] at h; cases h
      · rw [if_neg h4] at h
        exact resGo_ok r _ x (okc_snoc ho (hr y (by simp)) (fun h => h1 (.inr h)) h4) hr' h

section
variable {v : Int} {out L : List Int} {i : Nat}
theorem drop_consI (hi : i < L.length) : L.drop i = L.getD i 0 :: L.drop (i + 1) := by
  rw [List.drop_eq_getElem_cons hi, List.getD_eq_getElem?_getD, List.getElem?_eq_getElem hi]
  rfl
theorem resGo_skip (hi : i < L.length) (h : av (L.getD i 0) = v ∨ L.getD i 0 ∈ out) : resGo v out (L.drop i) = resGo v out (L.drop (i + 1)) := by
  rw [drop_consI hi, resGo, if_pos h]
theorem resGo_none (hi : i < L.length) (h : ¬ (av (L.getD i 0) = v ∨ L.getD i 0 ∈ out)) (h2 : -L.getD i 0 ∈ out) : resGo v out (L.drop i) = none := by
  rw [drop_consI hi, resGo, if_neg h, if_pos h2]
theorem resGo_add (hi : i < L.length) (h : ¬ (av (L.getD i 0) = v ∨ L.getD i 0 ∈ out)) (h2 : -L.getD i 0 ∉ out) : resGo v out (L.drop i) = resGo v (out ++ [L.getD i 0]) (L.drop (i + 1)) := by
  rw [drop_consI hi, resGo, if_neg h, if_neg h2]
theorem resGo_end (hi : L.length ≤ i) : resGo v out (L.drop i) = Option.some out := by
  rw [List.drop_of_length_le hi, resGo]
end
theorem flat_take {α : Type} (L : List (List α)) {i : Nat} (hi : i < L.length) : (L.take (i + 1)).flatten = (L.take i).flatten ++ L.getD i [] := by
  have e : L.getD i [] = L[i] := by rw [List.getD_eq_getElem?_getD, List.getElem?_eq_getElem hi]; rfl
  rw [List.take_add_one, List.getElem?_eq_getElem hi, e]
  show (L.take i ++ [L[i]]).flatten = _
  rw [List.flatten_append]
  simp only [List.flatten_cons, List.flatten_nil, List.append_nil]
theorem flat_le {α : Type} (L : List (List α)) (i : Nat) : (L.take i).flatten.length ≤ L.flatten.length := by
  have h : L.flatten = (L.take i).flatten ++ (L.drop i).flatten := by rw [← List.flatten_append, List.take_append_drop]
  rw [h, List.length_append]
  omega

theorem okc_nil (n : Nat) : Okc n [] := ⟨fun x hx => (List.not_mem_nil hx).elim, List.Pairwise.nil⟩

theorem okc_sort {n : Nat} {c : List Int} (h : Okc n c) : Okc n (litSort c) :=
  ⟨fun x hx => h.1 x (litSort_mem.1 hx), (litSort_perm c).symm.pairwise h.2 (fun h => fun e => h e.symm)⟩

theorem res2_ok {n : Nat} {a b : List Int} {v : Int} (ha : Good n a) (hb : Good n b) : Okc n (res2 a b v).1 := by
  unfold res2
  split
  · exact okc_nil n
  · split
    · rename_i h
      unfold resolve at h ⊢
      cases e : resGo v [] (a ++ b) with
      | none => rw [e] at h; cases h
      | some x =>
        exact okc_sort (resGo_ok _ _ _ (okc_nil n) (fun z hz => (List.mem_append.1 hz).elim (ha z) (hb z)) e)
    · exact okc_nil n

/-- What a resolvent is. -/
theorem res2_mem {a b : List Int} {v : Int} (h : (res2 a b v).2 = 0) : v ∈ a ∧ -v ∈ b ∧ ∀ l, l ∈ (res2 a b v).1 ↔ (l ∈ a ∨ l ∈ b) ∧ av l ≠ v := by
  unfold res2 at h ⊢
  by_cases h1 : v ∉ a ∨ -v ∉ b
  · rw [if_pos h1] at h; exact absurd h (by decide)
  · rw [if_neg h1] at h ⊢
    by_cases h2 : (resolve a b v).isSome = true
    · rw [if_pos h2]
      refine ⟨Decidable.byContradiction fun h => h1 (.inl h), Decidable.byContradiction fun h => h1 (.inr h), fun l => ?_⟩
      unfold resolve at h2 ⊢
      cases e : resGo v [] (a ++ b) with
      | none => rw [e] at h2; cases h2
      | some x =>
        show l ∈ litSort x ↔ _
        rw [litSort_mem, resGo_mem _ _ _ e l]
        simp
    · rw [if_neg h2] at h; exact absurd h (by decide)

theorem resOne_ok {n : Nat} {l : List (List Int)} {r : Rs} {k : Int} (hl : ∀ c ∈ l, Okc n c) : Okc n (resOne l r k).1 := by
  unfold resOne
  have hg : ∀ i : Nat, Good n (l.getD i []) := fun i => by
    rw [List.getD_eq_getElem?_getD]
    cases e : l[i]? with
    | none => exact (okc_nil n).1
    | some c => exact (hl c (List.mem_of_getElem? e)).1
  split
  · exact okc_nil n
  · exact res2_ok (hg _) (hg _)

theorem take_snocR {l : List Rs} {i : Nat} (hi : i < l.length) : l.take (i + 1) = l.take i ++ [l.getD i (0, 0, 0)] := by
  rw [List.take_add_one, List.getElem?_eq_getElem hi, List.getD_eq_getElem?_getD, List.getElem?_eq_getElem hi]
  rfl
theorem resTo_succ {n : Int} {g : List (List Int)} {l : List Rs} {i : Nat} (hi : i < l.length) : resTo n g l (i + 1) = resTo n g l i ++ [(resOne (resTo n g l i) (l.getD i (0, 0, 0)) n).1] := by
  unfold resTo
  rw [take_snocR hi, List.foldl_append]
  rfl
theorem resTo_len {n : Int} {g : List (List Int)} {l : List Rs} : ∀ i, i ≤ l.length → (resTo n g l i).length = g.length + i
  | 0, _ => rfl
  | i + 1, h => by rw [resTo_succ (by omega), List.length_append, resTo_len i (by omega)]; simp; omega
theorem resTo_okc {k : Int} {n : Nat} {g : List (List Int)} {l : List Rs} (hg : ∀ c ∈ g, Okc n c) : ∀ i, i ≤ l.length → ∀ c ∈ resTo k g l i, Okc n c
  | 0, _ => hg
  | i + 1, h => by
    intro c hc
    rw [resTo_succ (by omega)] at hc
    rcases List.mem_append.1 hc with hc | hc
    · exact resTo_okc hg i (by omega) c hc
    · rw [List.mem_singleton.1 hc]
      exact resOne_ok (resTo_okc hg i (by omega))

theorem drop_consR {l : List Rs} {i : Nat} (hi : i < l.length) : l.drop i = l.getD i (0, 0, 0) :: l.drop (i + 1) := by
  rw [List.drop_eq_getElem_cons hi, List.getD_eq_getElem?_getD, List.getElem?_eq_getElem hi]
  rfl
theorem resF_bad {n : Int} {g : List (List Int)} {l : List Rs} {i : Nat} (hi : i < l.length) (h : (resOne (resTo n g l i) (l.getD i (0, 0, 0)) n).2 ≠ 0) :
    resF n (resTo n g l i) i (l.drop i) = ((resOne (resTo n g l i) (l.getD i (0, 0, 0)) n).2, (i : Int)) := by
  rw [drop_consR hi, resF, if_pos h]
theorem resF_step {n : Int} {g : List (List Int)} {l : List Rs} {i : Nat} (hi : i < l.length) (h : (resOne (resTo n g l i) (l.getD i (0, 0, 0)) n).2 = 0) :
    resF n (resTo n g l i) i (l.drop i) = resF n (resTo n g l (i + 1)) ((i + 1 : Nat) : Int) (l.drop (i + 1)) := by
  rw [drop_consR hi, resF, if_neg (fun h2 => h2 h), resTo_succ hi]
  rfl
theorem resF_end {n : Int} {g : List (List Int)} {l : List Rs} {i : Nat} (hi : l.length ≤ i) (k : Int) : resF n (resTo n g l i) k (l.drop i) = (0, 0) := by
  rw [List.drop_of_length_le hi]
  rfl
theorem resF_ok {n : Int} {g : List (List Int)} {l : List Rs} (h : (resF n g 0 l).1 = 0) : ∀ i, i ≤ l.length → (resF n (resTo n g l i) i (l.drop i)).1 = 0 ∧ ∀ j, j < i → (resOne (resTo n g l j) (l.getD j (0, 0, 0)) n).2 = 0
  | 0, _ => ⟨h, fun j hj => absurd hj (Nat.not_lt_zero j)⟩
  | i + 1, hi => by
    obtain ⟨h1, h2⟩ := resF_ok h i (by omega)
    by_cases h3 : (resOne (resTo n g l i) (l.getD i (0, 0, 0)) n).2 = 0
    · rw [resF_step (by omega) h3] at h1
      refine ⟨h1, fun j hj => ?_⟩
      by_cases e : j = i
      · subst e; exact h3
      · exact h2 j (by omega)
    · rw [resF_bad (by omega) h3] at h1
      exact absurd h1 h3
theorem resF_at {n : Int} {g : List (List Int)} {l : List Rs} (h : (resF n g 0 l).1 = 0) {i : Nat} (hi : i < l.length) : (resOne (resTo n g l i) (l.getD i (0, 0, 0)) n).2 = 0 := (resF_ok h (i + 1) (by omega)).2 i (by omega)
/-- What a step that is taken names. -/
theorem resOne_use {l : List (List Int)} {r : Rs} {n : Int} (h : (resOne l r n).2 = 0) : (0 ≤ r.1 ∧ r.1.toNat < l.length) ∧ (0 ≤ r.2.1 ∧ r.2.1.toNat < l.length) ∧ (1 ≤ r.2.2 ∧ r.2.2 ≤ n) ∧ (res2 (l.getD r.1.toNat []) (l.getD r.2.1.toNat []) r.2.2).2 = 0 ∧ (resOne l r n).1 = (res2 (l.getD r.1.toNat []) (l.getD r.2.1.toNat []) r.2.2).1 := by
  unfold resOne at h ⊢
  by_cases h1 : r.1 < 0 ∨ (l.length : Int) ≤ r.1 ∨ r.2.1 < 0 ∨ (l.length : Int) ≤ r.2.1 ∨ r.2.2 < 1 ∨ n < r.2.2
  · rw [if_pos h1] at h; exact absurd h (by decide)
  · rw [if_neg h1] at h ⊢
    exact ⟨by omega, by omega, by omega, h, rfl⟩

theorem resR_ok {n : Int} {g : List (List Int)} {l : List Rs} (h : (resR n g l).2.1 = 0) : l.length ≤ 2000 ∧ (resF n g 0 l).1 = 0 ∧ resR n g l = ((resTo n g l l.length).drop g.length, 0, 0) := by
  unfold resR at h ⊢
  by_cases h1 : 2000 < l.length
  · rw [if_pos h1] at h; exact absurd h (by decide)
  · rw [if_neg h1] at h ⊢
    by_cases h2 : (resF n g 0 l).1 ≠ 0
    · rw [if_pos h2] at h; exact absurd h h2
    · rw [if_neg h2]
      exact ⟨by omega, Decidable.byContradiction h2, rfl⟩
theorem resO_eq {n : Int} {g : List (List Int)} {l : List Rs} (h : (check n g).1 = 0) : resO n g l = resR n g l := if_neg (fun h2 => h2 h)

theorem check_app {n : Int} {a b : List (List Int)} (ha : (check n a).1 = 0) (hb : (check n b).1 = 0) (h : a.length + b.length ≤ 400) : (check n (a ++ b)).1 = 0 := by
  have h1 := check_ok ha
  have h2 := check_ok hb
  rw [check_of h1.1 (by rw [List.length_append]; exact h) (fun l hl => (List.mem_append.1 hl).elim (h1.2.2 l) (h2.2.2 l))]
theorem check_okc {n : Nat} {a : List (List Int)} (h : (check n a).1 = 0) : ∀ c ∈ a, Okc n c := fun c hc => wrong_iff.1 ((check_ok h).2.2 c hc).2

/-! ### What a proof tells -/

def pf : Prd := fun _ => false
/-- Of a clause of the first (e: Pudlak's). -/
def sysF (e : Bool) (b : List (List Int)) (c : List Int) : Prd := if e = true then fun _ => false else mcF b c
def sysB (e : Bool) (a b : List (List Int)) (v : Int) (p q : Prd) : Prd := if e = true then puB a b v p q else fun x => if occ b v = true then p x && q x else p x || q x
def prtS (e : Bool) (a b : List (List Int)) (P : List Prd) (r : Rs) : Prd := sysB e a b r.2.2 (P.getD r.1.toNat pf) (P.getD r.2.1.toNat pf)
def prt0 (e : Bool) (a b : List (List Int)) : List Prd := a.map (sysF e b) ++ b.map fun _ => fun _ => true
def prtTo (e : Bool) (a b : List (List Int)) (l : List Rs) (i : Nat) : List Prd := (l.take i).foldl (fun P r => P ++ [prtS e a b P r]) (prt0 e a b)
def lastP (e : Bool) (a b : List (List Int)) (l : List Rs) : Prd := (prtTo e a b l l.length).getD (a.length + b.length + l.length - 1) pf
theorem prtTo_succ {e : Bool} {a b : List (List Int)} {l : List Rs} {i : Nat} (hi : i < l.length) : prtTo e a b l (i + 1) = prtTo e a b l i ++ [prtS e a b (prtTo e a b l i) (l.getD i (0, 0, 0))] := by
  unfold prtTo
  rw [take_snocR hi, List.foldl_append]
  rfl
theorem prtTo_len {e : Bool} {a b : List (List Int)} {l : List Rs} : ∀ i, i ≤ l.length → (prtTo e a b l i).length = a.length + b.length + i
  | 0, _ => by show (prt0 e a b).length = _; simp [prt0]
  | i + 1, h => by rw [prtTo_succ (by omega), List.length_append, prtTo_len i (by omega)]; simp; omega

def takO (e : Bool) (n : Int) (a : List (List Int)) (m : Int) (b : List (List Int)) (l : List Rs) : DF :=
  if (betW n a m b).1 ≠ 0 then ([], 0, betW n a m b) else if (resO n (a ++ b) l).2.1 ≠ 0 then ([], 0, (resO n (a ++ b) l).2)
  else if l.length = 0 ∨ 0 < ((resO n (a ++ b) l).1.getD (l.length - 1) []).length then ([], 0, 11, 0) else diaBuilt n.toNat (dtab (lastP e a b l) n.toNat)
/-- What is wrong with a proof. -/
def prfW (n : Int) (a : List (List Int)) (m : Int) (b : List (List Int)) (l : List Rs) : Int × Int :=
  if (betW n a m b).1 ≠ 0 then betW n a m b else if (resR n (a ++ b) l).2.1 ≠ 0 then (resR n (a ++ b) l).2
  else if l.length = 0 ∨ 0 < ((resR n (a ++ b) l).1.getD (l.length - 1) []).length then (11, 0) else (0, 0)
theorem bet_zero {n m : Int} {a b : List (List Int)} (h : (betW n a m b).1 = 0) : betW n a m b = (0, 0) := by
  unfold betW at h ⊢
  by_cases h1 : (check n a).1 = 0
  · rw [if_neg (fun h2 => h2 h1)] at h ⊢
    by_cases h2 : (check m b).1 = 0
    · rw [if_neg (fun h3 => h3 h2)] at h ⊢
      by_cases h3 : n = m
      · rw [if_neg (fun h4 => h4 h3)] at h ⊢
        by_cases h4 : 16 < n ∨ 400 < a.length + b.length
        · rw [if_pos h4] at h; exact absurd h (by decide)
        · rw [if_neg h4]
      · rw [if_pos h3] at h; exact absurd h (by decide)
    · rw [if_pos h2] at h; exact absurd h h2
  · rw [if_pos h1] at h; exact absurd h h1
/-- All that a proof that is taken has. -/
structure Prf (k : Nat) (a b : List (List Int)) (l : List Rs) : Prop where
  k16 : k ≤ 16
  ca : (check k a).1 = 0
  cb : (check k b).1 = 0
  lab : a.length + b.length ≤ 400
  ll : l.length ≤ 2000
  l0 : 0 < l.length
  ok : ∀ i, i < l.length → (resOne (resTo k (a ++ b) l i) (l.getD i (0, 0, 0)) k).2 = 0
  fin : (resTo k (a ++ b) l l.length).getD (a.length + b.length + l.length - 1) [] = []
theorem prf_of {n m : Int} {a b : List (List Int)} {l : List Rs} (h : (prfW n a m b l).1 = 0) : ∃ k : Nat, n = k ∧ m = k ∧ Prf k a b l := by
  unfold prfW at h
  by_cases h1 : (betW n a m b).1 ≠ 0
  · rw [if_pos h1] at h; exact absurd h h1
  rw [if_neg h1] at h
  by_cases h2 : (resR n (a ++ b) l).2.1 ≠ 0
  · rw [if_pos h2] at h; exact absurd h h2
  rw [if_neg h2] at h
  obtain ⟨k, rfl, rfl, h16, hca, hcb, hab⟩ := bet_ok (Decidable.byContradiction h1)
  obtain ⟨r1, r2, r3⟩ := resR_ok (Decidable.byContradiction h2)
  rw [r3] at h
  by_cases h3 : l.length = 0 ∨ 0 < (((resTo k (a ++ b) l l.length).drop (a ++ b).length).getD (l.length - 1) []).length
  · rw [if_pos h3] at h; exact absurd h (by decide)
  · refine ⟨k, rfl, rfl, h16, hca, hcb, hab, r1, by omega, fun i hi => resF_at r2 hi, ?_⟩
    have h4 : (((resTo k (a ++ b) l l.length).drop (a ++ b).length).getD (l.length - 1) []).length = 0 := by omega
    have h5 := List.eq_nil_of_length_eq_zero h4
    rw [List.getD_eq_getElem?_getD, List.getElem?_drop, List.length_append] at h5
    rw [List.getD_eq_getElem?_getD, show a.length + b.length + l.length - 1 = a.length + b.length + (l.length - 1) by omega]
    exact h5
theorem tak_bad {e : Bool} {n m : Int} {a b : List (List Int)} {l : List Rs} (h : (prfW n a m b l).1 ≠ 0) : takO e n a m b l = ([], 0, prfW n a m b l) := by
  unfold takO
  unfold prfW at h ⊢
  by_cases h1 : (betW n a m b).1 ≠ 0
  · rw [if_pos h1, if_pos h1]
  rw [if_neg h1] at h ⊢
  rw [if_neg h1]
  obtain ⟨k, rfl, rfl, h16, hca, hcb, hab⟩ := bet_ok (Decidable.byContradiction h1)
  rw [resO_eq (check_app hca hcb hab)]
  by_cases h2 : (resR k (a ++ b) l).2.1 ≠ 0
  · rw [if_pos h2, if_pos h2]
  rw [if_neg h2] at h ⊢
  rw [if_neg h2]
  by_cases h3 : l.length = 0 ∨ 0 < ((resR k (a ++ b) l).1.getD (l.length - 1) []).length
  · rw [if_pos h3, if_pos h3]
  · rw [if_neg h3] at h; exact absurd rfl h
theorem tak_good {e : Bool} {n m : Int} {a b : List (List Int)} {l : List Rs} (h : (prfW n a m b l).1 = 0) : takO e n a m b l = diaBuilt n.toNat (dtab (lastP e a b l) n.toNat) ∧ prfW n a m b l = (0, 0) := by
  unfold takO
  unfold prfW at h ⊢
  by_cases h1 : (betW n a m b).1 ≠ 0
  · rw [if_pos h1] at h; exact absurd h h1
  rw [if_neg h1] at h ⊢
  rw [if_neg h1]
  obtain ⟨k, rfl, rfl, h16, hca, hcb, hab⟩ := bet_ok (Decidable.byContradiction h1)
  rw [resO_eq (check_app hca hcb hab)]
  by_cases h2 : (resR k (a ++ b) l).2.1 ≠ 0
  · rw [if_pos h2] at h; exact absurd h h2
  rw [if_neg h2] at h ⊢
  rw [if_neg h2]
  by_cases h3 : l.length = 0 ∨ 0 < ((resR k (a ++ b) l).1.getD (l.length - 1) []).length
  · rw [if_pos h3] at h; exact absurd h (by decide)
  · rw [if_neg h3, if_neg h3]
    exact ⟨rfl, rfl⟩
end Sp
end Go.Um

/- Plain law: what a proof tells stands between two sets of clauses. No program in sight. No condition. -/


namespace Go.Um
namespace Sp

/-! ### The variables of a diagram -/

/-- A table that does not ask for its variable number r. -/
def Ind : Nat → List Bool → Nat → Prop
  | 0, _, _ => True
  | m + 1, t, 0 => t.take (2 ^ m) = (t.drop (2 ^ m)).take (t.length - 2 ^ m)
  | m + 1, t, r + 1 => Ind m (t.take (2 ^ m)) r ∧ Ind m ((t.drop (2 ^ m)).take (t.length - 2 ^ m)) r

theorem growJ_mem {l : List Cho} {v a b : Int} {c : Cho} (h : c ∈ (growJ l v a b).1) : c ∈ l ∨ (c = (v, a, b) ∧ a ≠ b) := by
  rcases growJ_cases l v a b with ⟨_, e⟩ | ⟨_, i, _, e⟩ | ⟨h2, _, e⟩ <;> rw [e] at h
  · exact .inl h
  · exact .inl h
  · rcases List.mem_append.1 h with h | h
    · exact .inl h
    · exact .inr ⟨List.mem_singleton.1 h, h2⟩
theorem grow_low : ∀ (m : Nat) (l : List Cho) (t : List Bool) (v : Int), ∀ c ∈ (grow m l t v).1, c ∈ l ∨ v ≤ c.1
  | 0, l, t, v => fun c h => .inl h
  | m + 1, l, t, v => by
    intro c h
    rw [grow_step rfl rfl] at h
    rcases growJ_mem h with h | ⟨rfl, _⟩
    · rcases grow_low m _ _ _ c h with h | h
      · rcases grow_low m _ _ _ c h with h | h
        · exact .inl h
        · exact .inr (by omega)
      · exact .inr (by omega)
    · exact .inr (Int.le_refl _)
theorem grow_ind : ∀ (m : Nat) (l : List Cho) (t : List Bool) (v : Int) (r : Nat), r < m → Ind m t r → ∀ c ∈ (grow m l t v).1, c ∈ l ∨ c.1 ≠ v + r
  | 0, l, t, v, r, hr, _ => absurd hr (Nat.not_lt_zero r)
  | m + 1, l, t, v, 0, _, hI => by
    intro c h
    rw [grow_step rfl rfl] at h
    have e : t.take (2 ^ m) = (t.drop (2 ^ m)).take (t.length - 2 ^ m) := hI
    rw [← e, grow_idem] at h
    rcases growJ_mem h with h | ⟨_, h2⟩
    · rcases grow_low m _ _ _ c h with h | h
      · exact .inl h
      · exact .inr (by simp; omega)
    · exact absurd rfl h2
  | m + 1, l, t, v, r + 1, hr, hI => by
    intro c h
    obtain ⟨h1, h2⟩ := hI
    rw [grow_step rfl rfl] at h
    rcases growJ_mem h with h | ⟨rfl, _⟩
    · rcases grow_ind m _ _ _ r (by omega) h2 c h with h | h
      · rcases grow_ind m _ _ _ r (by omega) h1 c h with h | h
        · exact .inl h
        · exact .inr (fun e => h (by rw [e]; simp; omega))
      · exact .inr (fun e => h (by rw [e]; simp; omega))
    · exact .inr (by show v ≠ _; simp; omega)

theorem dtab_succ (P : List Bool → Bool) (m : Nat) : dtab P (m + 1) = dtab (fun x => P (false :: x)) m ++ dtab (fun x => P (true :: x)) m := by
  unfold dtab
  rw [show 2 ^ (m + 1) = 2 ^ m + 2 ^ m by omega, List.range_add, List.map_append, List.map_map]
  congr 1
  · refine List.map_congr_left fun w hw => ?_
    rw [bits_lo (List.mem_range.1 hw)]
  · refine List.map_congr_left fun w hw => ?_
    show P (bits (m + 1) ((2 ^ m + w : Nat) : Int)) = _
    rw [bits_hi (List.mem_range.1 hw)]
theorem dtab_ind : ∀ (m : Nat) (P : List Bool → Bool) (r : Nat), r < m → (∀ x : List Bool, x.length = m → P (x.set r false) = P (x.set r true)) → Ind m (dtab P m) r
  | 0, P, r, h, _ => absurd h (Nat.not_lt_zero r)
  | m + 1, P, r, h, hP => by
    have hl : ∀ Q : List Bool → Bool, (dtab Q m).length = 2 ^ m := fun Q => dtab_len Q m
    have e1 : (dtab P (m + 1)).take (2 ^ m) = dtab (fun x => P (false :: x)) m := by rw [dtab_succ, ← hl (fun x => P (false :: x)), List.take_left]
    have e2 : ((dtab P (m + 1)).drop (2 ^ m)).take ((dtab P (m + 1)).length - 2 ^ m) = dtab (fun x => P (true :: x)) m := by
      rw [dtab_len, dtab_succ]
      have := List.drop_left (l₁ := dtab (fun x => P (false :: x)) m) (l₂ := dtab (fun x => P (true :: x)) m)
      rw [hl] at this
      rw [this, List.take_of_length_le (by rw [hl]; omega)]
    cases r with
    | zero =>
      show (dtab P (m + 1)).take (2 ^ m) = _
      rw [e1, e2]
      unfold dtab
      refine List.map_congr_left fun w _ => ?_
      exact hP (false :: bits m w) (by rw [List.length_cons, bits_length])
    | succ r =>
      show Ind m _ r ∧ Ind m _ r
      rw [e1, e2]
      exact ⟨dtab_ind m _ r (by omega) (fun x hx => hP (false :: x) (by rw [List.length_cons, hx])), dtab_ind m _ r (by omega) (fun x hx => hP (true :: x) (by rw [List.length_cons, hx]))⟩

/-! ### Between -/

def Ex (S : Int → Bool) (c : List Int) (x : List Bool) : Prop := ∃ y ∈ c, S (av y) = true ∧ lit x y = true
/-- What asks for common variables alone. -/
def Dep (a b : List (List Int)) (p : Prd) : Prop := ∀ x x', (∀ v, 1 ≤ v → occ a v = true → occ b v = true → x.getD (v - 1).toNat false = x'.getD (v - 1).toNat false) → p x = p x'
structure Btw (a b : List (List Int)) (c : List Int) (p q : Prd) : Prop where
  m1 : ∀ x, all x a = true → p x = true ∨ Ex (fun v => !occ b v) c x
  m2 : ∀ x, all x b = true → p x = true → Ex (occ b) c x
  q1 : ∀ x, all x a = true → q x = true ∨ Ex (occ a) c x
  q2 : ∀ x, all x b = true → q x = true → Ex (occ b) c x
  pq : ∀ x, p x = true → q x = true ∨ Ex (fun v => occ a v && occ b v) c x
  dp : Dep a b p
  dq : Dep a b q

theorem occ_mem {a : List (List Int)} {c : List Int} {y : Int} (hc : c ∈ a) (hy : y ∈ c) : occ a (av y) = true := by
  unfold occ
  rw [List.any_eq_true]
  refine ⟨c, hc, ?_⟩
  rw [Bool.or_eq_true, decide_eq_true_eq, decide_eq_true_eq]
  have : av y = y ∨ -av y = y := by unfold av; omega
  rcases this with e | e
  · rw [e]; exact .inl hy
  · rw [e]; exact .inr hy
theorem sat_of_all {x : List Bool} {a : List (List Int)} {c : List Int} (h : all x a = true) (hc : c ∈ a) : ∃ y ∈ c, lit x y = true := by
  have := List.all_eq_true.1 h c hc
  exact List.any_eq_true.1 this
theorem pair_mem {R : Int → Int → Prop} : ∀ {l : List Int}, l.Pairwise R → ∀ {x y : Int}, x ∈ l → y ∈ l → x = y ∨ R x y ∨ R y x
  | [], _, x, y, hx, _ => (List.not_mem_nil hx).elim
  | z :: l, h, x, y, hx, hy => by
    rw [List.pairwise_cons] at h
    rcases List.mem_cons.1 hx with e1 | h1
    · rcases List.mem_cons.1 hy with e2 | h2
      · exact .inl (e1.trans e2.symm)
      · exact .inr (.inl (by rw [e1]; exact h.1 y h2))
    · rcases List.mem_cons.1 hy with e2 | h2
      · exact .inr (.inr (by rw [e2]; exact h.1 x h1))
      · exact pair_mem h.2 h1 h2
theorem okc_eq {n : Nat} {c : List Int} (h : Okc n c) {x y : Int} (hx : x ∈ c) (hy : y ∈ c) (e : av x = av y) : x = y := by
  rcases pair_mem h.2 hx hy with h1 | h1 | h1
  · exact h1
  · exact absurd e h1
  · exact absurd e.symm h1

section
variable {n : Nat} {c1 c2 c : List Int} {v : Int} {x : List Bool}
theorem one_res1 {S : Int → Bool} (hc : ∀ l, l ∈ c ↔ (l ∈ c1 ∨ l ∈ c2) ∧ av l ≠ v) (h : Ex S c1 x) (hS : S v = false) : Ex S c x := by
  obtain ⟨y, h1, h2, h3⟩ := h
  exact ⟨y, (hc y).2 ⟨.inl h1, fun e => by rw [e, hS] at h2; cases h2⟩, h2, h3⟩
theorem one_res2 {S : Int → Bool} (hc : ∀ l, l ∈ c ↔ (l ∈ c1 ∨ l ∈ c2) ∧ av l ≠ v) (h : Ex S c2 x) (hS : S v = false) : Ex S c x := by
  obtain ⟨y, h1, h2, h3⟩ := h
  exact ⟨y, (hc y).2 ⟨.inr h1, fun e => by rw [e, hS] at h2; cases h2⟩, h2, h3⟩
theorem pos_res {S : Int → Bool} (hc : ∀ l, l ∈ c ↔ (l ∈ c1 ∨ l ∈ c2) ∧ av l ≠ v) (hv : 1 ≤ v) (h2 : Okc n c2) (hv2 : -v ∈ c2) (h : Ex S c2 x) (hx : lit x v = true) : Ex S c x := by
  obtain ⟨y, g1, g2, g3⟩ := h
  refine ⟨y, (hc y).2 ⟨.inr g1, fun e => ?_⟩, g2, g3⟩
  have : y = -v := okc_eq h2 g1 hv2 (by rw [e]; unfold av; omega)
  rw [this, lit_neg (by omega), hx] at g3
  cases g3
theorem neg_res {S : Int → Bool} (hc : ∀ l, l ∈ c ↔ (l ∈ c1 ∨ l ∈ c2) ∧ av l ≠ v) (hv : 1 ≤ v) (h1 : Okc n c1) (hv1 : v ∈ c1) (h : Ex S c1 x) (hx : lit x v = false) : Ex S c x := by
  obtain ⟨y, g1, g2, g3⟩ := h
  refine ⟨y, (hc y).2 ⟨.inl g1, fun e => ?_⟩, g2, g3⟩
  have : y = v := okc_eq h1 g1 hv1 (by rw [e]; unfold av; omega)
  rw [this, hx] at g3
  cases g3
theorem two_res {S : Int → Bool} (hc : ∀ l, l ∈ c ↔ (l ∈ c1 ∨ l ∈ c2) ∧ av l ≠ v) (hv : 1 ≤ v) (h1 : Okc n c1) (h2 : Okc n c2) (hv1 : v ∈ c1) (hv2 : -v ∈ c2) (g1 : Ex S c1 x) (g2 : Ex S c2 x) : Ex S c x := by
  cases hx : lit x v with
  | true => exact pos_res hc hv h2 hv2 g2 hx
  | false => exact neg_res hc hv h1 hv1 g1 hx
theorem lit_pos (hv : 1 ≤ v) : lit x v = x.getD (v - 1).toNat false := by unfold lit; rw [if_pos (by omega)]
end

theorem lit_dep {x x' : List Bool} {y : Int} (hy : y ≠ 0) (h : x.getD (av y - 1).toNat false = x'.getD (av y - 1).toNat false) : lit x y = lit x' y := by
  unfold lit
  by_cases h0 : 0 < y
  · rw [if_pos h0, if_pos h0, show y = av y by unfold av; omega, h]
  · rw [if_neg h0, if_neg h0, show -y = av y by unfold av; omega, h]

theorem btw_a {n : Nat} {a b : List (List Int)} {c : List Int} (hc : c ∈ a) (ho : Okc n c) : Btw a b c (sysF false b c) (sysF true b c) where
  m1 := fun x h => by
    obtain ⟨y, h1, h2⟩ := sat_of_all h hc
    cases e : occ b (av y) with
    | true => exact .inl (List.any_eq_true.2 ⟨y, h1, by simp [e, h2]⟩)
    | false => exact .inr ⟨y, h1, by simp [e], h2⟩
  m2 := fun x _ h => by
    obtain ⟨y, h1, h2⟩ := List.any_eq_true.1 h
    simp only [Bool.and_eq_true] at h2
    exact ⟨y, h1, h2.1, h2.2⟩
  q1 := fun x h => by
    obtain ⟨y, h1, h2⟩ := sat_of_all h hc
    exact .inr ⟨y, h1, occ_mem hc h1, h2⟩
  q2 := fun x _ h => by cases h
  pq := fun x h => by
    obtain ⟨y, h1, h2⟩ := List.any_eq_true.1 h
    simp only [Bool.and_eq_true] at h2
    exact .inr ⟨y, h1, by simp [h2.1, occ_mem hc h1], h2.2⟩
  dp := fun x x' h => by
    show c.any _ = c.any _
    have : ∀ y ∈ c, (occ b (av y) && lit x y) = (occ b (av y) && lit x' y) := fun y hy => by
      cases e : occ b (av y) with
      | false => rfl
      | true =>
        have h0 := (ho.1 y hy).1
        rw [lit_dep h0 (h (av y) (by unfold av; omega) (occ_mem hc hy) e)]
    rw [Bool.eq_iff_iff, List.any_eq_true, List.any_eq_true]
    exact ⟨fun ⟨y, h1, h2⟩ => ⟨y, h1, by rw [← this y h1]; exact h2⟩, fun ⟨y, h1, h2⟩ => ⟨y, h1, by rw [this y h1]; exact h2⟩⟩
  dq := fun x x' _ => rfl
theorem btw_b {a b : List (List Int)} {c : List Int} (hc : c ∈ b) : Btw a b c (fun _ => true) (fun _ => true) where
  m1 := fun x _ => .inl rfl
  m2 := fun x h _ => by
    obtain ⟨y, h1, h2⟩ := sat_of_all h hc
    exact ⟨y, h1, occ_mem hc h1, h2⟩
  q1 := fun x _ => .inl rfl
  q2 := fun x h _ => by
    obtain ⟨y, h1, h2⟩ := sat_of_all h hc
    exact ⟨y, h1, occ_mem hc h1, h2⟩
  pq := fun x _ => .inl rfl
  dp := fun _ _ _ => rfl
  dq := fun _ _ _ => rfl

theorem sysB0 {a b : List (List Int)} {v : Int} {p q : Prd} : sysB false a b v p q = fun x => if occ b v = true then p x && q x else p x || q x := rfl
theorem sysB1 {a b : List (List Int)} {v : Int} {p q : Prd} : sysB true a b v p q = puB a b v p q := rfl

theorem btw_r {n : Nat} {a b : List (List Int)} {c1 c2 c : List Int} {p1 q1 p2 q2 : Prd} {v : Int} (hv : 1 ≤ v) (h1 : Btw a b c1 p1 q1) (h2 : Btw a b c2 p2 q2) (o1 : Okc n c1) (o2 : Okc n c2) (hv1 : v ∈ c1) (hv2 : -v ∈ c2)
    (hc : ∀ l, l ∈ c ↔ (l ∈ c1 ∨ l ∈ c2) ∧ av l ≠ v) : Btw a b c (sysB false a b v p1 p2) (sysB true a b v q1 q2) where
  m1 := fun x h => by
    rw [sysB0]
    have g1 := h1.m1 x h
    have g2 := h2.m1 x h
    cases e : occ b v with
    | true =>
      simp only [if_true]
      rcases g1 with g1 | g1
      · rcases g2 with g2 | g2
        · exact .inl (by rw [g1, g2]; rfl)
        · exact .inr (one_res2 hc g2 (by simp [e]))
      · exact .inr (one_res1 hc g1 (by simp [e]))
    | false =>
      simp only [Bool.false_eq_true, if_false]
      rcases g1 with g1 | g1
      · exact .inl (by rw [g1]; rfl)
      · rcases g2 with g2 | g2
        · exact .inl (by rw [g2, Bool.or_true])
        · exact .inr (two_res hc hv o1 o2 hv1 hv2 g1 g2)
  m2 := fun x h hp => by
    rw [sysB0] at hp
    cases e : occ b v with
    | true =>
      simp only [e, if_true, Bool.and_eq_true] at hp
      exact two_res hc hv o1 o2 hv1 hv2 (h1.m2 x h hp.1) (h2.m2 x h hp.2)
    | false =>
      simp only [e, Bool.false_eq_true, if_false, Bool.or_eq_true] at hp
      rcases hp with hp | hp
      · exact one_res1 hc (h1.m2 x h hp) e
      · exact one_res2 hc (h2.m2 x h hp) e
  q1 := fun x h => by
    rw [sysB1]
    unfold puB
    have g1 := h1.q1 x h
    have g2 := h2.q1 x h
    by_cases e : occ b v = false
    · rw [if_pos e]
      rcases g1 with g1 | g1
      · exact .inl (by rw [g1]; rfl)
      · rcases g2 with g2 | g2
        · exact .inl (by rw [g2, Bool.or_true])
        · exact .inr (two_res hc hv o1 o2 hv1 hv2 g1 g2)
    · rw [if_neg e]
      by_cases e2 : occ a v = false
      · rw [if_pos e2]
        rcases g1 with g1 | g1
        · rcases g2 with g2 | g2
          · exact .inl (by rw [g1, g2]; rfl)
          · exact .inr (one_res2 hc g2 e2)
        · exact .inr (one_res1 hc g1 e2)
      · rw [if_neg e2]
        by_cases e3 : x.getD (v - 1).toNat false = true
        · rw [if_pos e3]
          exact g2.imp id (fun g2 => pos_res hc hv o2 hv2 g2 (by rw [lit_pos hv]; exact e3))
        · rw [if_neg e3]
          exact g1.imp id (fun g1 => neg_res hc hv o1 hv1 g1 (by rw [lit_pos hv]; simpa using e3))
  q2 := fun x h hq => by
    rw [sysB1] at hq
    unfold puB at hq
    by_cases e : occ b v = false
    · rw [if_pos e, Bool.or_eq_true] at hq
      rcases hq with hq | hq
      · exact one_res1 hc (h1.q2 x h hq) e
      · exact one_res2 hc (h2.q2 x h hq) e
    · rw [if_neg e] at hq
      by_cases e2 : occ a v = false
      · rw [if_pos e2, Bool.and_eq_true] at hq
        exact two_res hc hv o1 o2 hv1 hv2 (h1.q2 x h hq.1) (h2.q2 x h hq.2)
      · rw [if_neg e2] at hq
        by_cases e3 : x.getD (v - 1).toNat false = true
        · rw [if_pos e3] at hq
          exact pos_res hc hv o2 hv2 (h2.q2 x h hq) (by rw [lit_pos hv]; exact e3)
        · rw [if_neg e3] at hq
          exact neg_res hc hv o1 hv1 (h1.q2 x h hq) (by rw [lit_pos hv]; simpa using e3)
  pq := fun x hp => by
    rw [sysB0] at hp
    rw [sysB1]
    unfold puB
    by_cases e : occ b v = false
    · simp only [e, Bool.false_eq_true, if_false, Bool.or_eq_true] at hp
      rw [if_pos e]
      rcases hp with hp | hp
      · rcases h1.pq x hp with g | g
        · exact .inl (by rw [g]; rfl)
        · exact .inr (one_res1 hc g (by simp [e]))
      · rcases h2.pq x hp with g | g
        · exact .inl (by rw [g, Bool.or_true])
        · exact .inr (one_res2 hc g (by simp [e]))
    · have e' : occ b v = true := by simpa using e
      simp only [e', if_true, Bool.and_eq_true] at hp
      rw [if_neg e]
      have g1 := h1.pq x hp.1
      have g2 := h2.pq x hp.2
      by_cases e2 : occ a v = false
      · rw [if_pos e2]
        rcases g1 with g1 | g1
        · rcases g2 with g2 | g2
          · exact .inl (by rw [g1, g2]; rfl)
          · exact .inr (one_res2 hc g2 (by simp [e2]))
        · exact .inr (one_res1 hc g1 (by simp [e2]))
      · rw [if_neg e2]
        by_cases e3 : x.getD (v - 1).toNat false = true
        · rw [if_pos e3]
          exact g2.imp id (fun g2 => pos_res hc hv o2 hv2 g2 (by rw [lit_pos hv]; exact e3))
        · rw [if_neg e3]
          exact g1.imp id (fun g1 => neg_res hc hv o1 hv1 g1 (by rw [lit_pos hv]; simpa using e3))
  dp := fun x x' h => by rw [sysB0]; simp only [h1.dp x x' h, h2.dp x x' h]
  dq := fun x x' h => by
    rw [sysB1]
    unfold puB
    rw [h1.dq x x' h, h2.dq x x' h]
    by_cases e : occ b v = false
    · rw [if_pos e, if_pos e]
    · rw [if_neg e, if_neg e]
      by_cases e2 : occ a v = false
      · rw [if_pos e2, if_pos e2]
      · rw [if_neg e2, if_neg e2, h v hv (by simpa using e2) (by simpa using e)]

theorem getD_app0 {α : Type} {l m : List α} {i : Nat} (z : α) (h : i < l.length) : (l ++ m).getD i z = l.getD i z := by
  rw [List.getD_eq_getElem?_getD, List.getD_eq_getElem?_getD, List.getElem?_append_left h]
theorem getD_app1 {α : Type} {l m : List α} {i : Nat} (z : α) (h : l.length ≤ i) : (l ++ m).getD i z = m.getD (i - l.length) z := by
  rw [List.getD_eq_getElem?_getD, List.getD_eq_getElem?_getD, List.getElem?_append_right h]
theorem getD_at {α : Type} {l : List α} {i : Nat} (z : α) (h : i < l.length) : l.getD i z = l[i] := by
  rw [List.getD_eq_getElem?_getD, List.getElem?_eq_getElem h]; rfl

theorem btw_to {k : Nat} {a b : List (List Int)} {l : List Rs} (h : Prf k a b l) : ∀ i, i ≤ l.length → ∀ j, j < a.length + b.length + i → Btw a b ((resTo k (a ++ b) l i).getD j []) ((prtTo false a b l i).getD j pf) ((prtTo true a b l i).getD j pf)
  | 0, _, j, hj => by
    show Btw a b ((a ++ b).getD j []) ((prt0 false a b).getD j pf) ((prt0 true a b).getD j pf)
    unfold prt0
    have hm : ∀ e, (a.map (sysF e b)).length = a.length := fun e => List.length_map _
    by_cases hja : j < a.length
    · rw [getD_app0 _ hja, getD_app0 _ (by rw [hm]; exact hja), getD_app0 _ (by rw [hm]; exact hja), getD_at _ hja, getD_at _ (by rw [hm]; exact hja), getD_at _ (by rw [hm]; exact hja), List.getElem_map, List.getElem_map]
      exact btw_a (List.getElem_mem hja) (check_okc h.ca _ (List.getElem_mem hja))
    · rw [getD_app1 _ (by omega), getD_app1 _ (by rw [hm]; omega), getD_app1 _ (by rw [hm]; omega), hm, hm]
      have hjb : j - a.length < b.length := by omega
      rw [getD_at _ hjb, getD_at _ (by rw [List.length_map]; exact hjb), List.getElem_map]
      exact btw_b (List.getElem_mem hjb)
  | i + 1, hi, j, hj => by
    have hg : ∀ c ∈ a ++ b, Okc k c := fun c hc => (List.mem_append.1 hc).elim (check_okc h.ca c) (check_okc h.cb c)
    have hl := resTo_len (n := k) (g := a ++ b) (l := l) i (by omega)
    rw [List.length_append] at hl
    have hp := fun e => prtTo_len (e := e) (a := a) (b := b) (l := l) i (by omega)
    rw [resTo_succ (by omega), prtTo_succ (by omega), prtTo_succ (by omega)]
    by_cases hji : j < a.length + b.length + i
    · rw [getD_app0 _ (by omega), getD_app0 _ (by rw [hp]; omega), getD_app0 _ (by rw [hp]; omega)]
      exact btw_to h i (by omega) j hji
    · obtain rfl : j = a.length + b.length + i := by omega
      rw [getD_app1 _ (by omega), getD_app1 _ (by rw [hp]; omega), getD_app1 _ (by rw [hp]; omega), hl, hp, hp, Nat.sub_self]
      show Btw a b (resOne (resTo k (a ++ b) l i) (l.getD i (0, 0, 0)) k).1 (prtS false a b _ _) (prtS true a b _ _)
      obtain ⟨u1, u2, u3, u4, u5⟩ := resOne_use (h.ok i (by omega))
      rw [u5]
      have hok := resTo_okc (k := k) (l := l) hg i (by omega)
      obtain ⟨w1, w2, w3⟩ := res2_mem u4
      refine btw_r (n := k) u3.1 (btw_to h i (by omega) (l.getD i (0, 0, 0)).1.toNat (by omega)) (btw_to h i (by omega) (l.getD i (0, 0, 0)).2.1.toNat (by omega)) ?_ ?_ w1 w2 w3
      · rw [getD_at _ u1.2]; exact hok _ (List.getElem_mem _)
      · rw [getD_at _ u2.2]; exact hok _ (List.getElem_mem _)

theorem btw_last {k : Nat} {a b : List (List Int)} {l : List Rs} (h : Prf k a b l) : Btw a b [] (lastP false a b l) (lastP true a b l) := by
  have := btw_to h l.length (Nat.le_refl _) (a.length + b.length + l.length - 1) (by have := h.l0; omega)
  rw [h.fin] at this
  exact this
theorem ex_nil {S : Int → Bool} {x : List Bool} (h : Ex S [] x) : False := by
  obtain ⟨y, hy, _⟩ := h
  exact List.not_mem_nil hy
/-- What both say where the first hold, and where the second do. -/
theorem stand_a {k : Nat} {a b : List (List Int)} {l : List Rs} (h : Prf k a b l) (e : Bool) {x : List Bool} (hx : all x a = true) : lastP e a b l x = true := by
  cases e with
  | false => exact ((btw_last h).m1 x hx).resolve_right ex_nil
  | true => exact ((btw_last h).q1 x hx).resolve_right ex_nil
theorem stand_b {k : Nat} {a b : List (List Int)} {l : List Rs} (h : Prf k a b l) (e : Bool) {x : List Bool} (hx : all x b = true) : lastP e a b l x = false := by
  cases e with
  | false => exact Bool.eq_false_iff.2 (fun hp => ex_nil ((btw_last h).m2 x hx hp))
  | true => exact Bool.eq_false_iff.2 (fun hp => ex_nil ((btw_last h).q2 x hx hp))
theorem stand_dep {k : Nat} {a b : List (List Int)} {l : List Rs} (h : Prf k a b l) (e : Bool) : Dep a b (lastP e a b l) := by
  cases e with
  | false => exact (btw_last h).dp
  | true => exact (btw_last h).dq

/-- The variables that a diagram names are common. -/
theorem dep_vars {n : Nat} {a b : List (List Int)} {p : Prd} (h : Dep a b p) (hn : n ≤ 8) : ∀ c ∈ (grow n [] (dtab p n) 1).1, occ a c.1 = true ∧ occ b c.1 = true := by
  intro c hc
  have hok := built_ok (dtab p n) hn
  have hd := dia_ok (n := (n : Int)) (l := (grow n [] (dtab p n) 1).1) (r := (grow n [] (dtab p n) 1).2) (by rw [hok])
  obtain ⟨i, hi, e⟩ := List.getElem_of_mem hc
  have hv := (cho_ok (hd.2.2.1 i hi)).1
  rw [getD_at _ hi, e] at hv
  refine Classical.byContradiction fun hno => ?_
  have hI := dtab_ind n p (c.1 - 1).toNat (by omega) (fun x hx => h _ _ (fun v h1 h2 h3 => ?_))
  · rcases grow_ind n [] (dtab p n) 1 _ (by omega) hI c hc with h4 | h4
    · exact List.not_mem_nil h4
    · exact h4 (by omega)
  · have hne : v ≠ c.1 := by
      rintro rfl
      exact hno ⟨h2, h3⟩
    rw [List.getD_eq_getElem?_getD, List.getD_eq_getElem?_getD, List.getElem?_set_ne (by omega), List.getElem?_set_ne (by omega)]
end Sp
end Go.Um
