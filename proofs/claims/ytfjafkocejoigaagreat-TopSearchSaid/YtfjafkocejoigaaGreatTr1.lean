/- Plain law: steps that are taken, as resolutions. No program in sight. No condition. -/
import Derived.Test.YtfjafkocejoigaaGreatPD
import Derived.Test.YtfjafkocejoigaaGreatSq8
namespace Go.Um
namespace Sp
structure Rd (kn : List (List Int)) (c L W : List Int) : Prop where
  len : L.length = W.length
  pre : L.take c.length = c.map fun x => -x
  lo : c.length ≤ L.length
  dec : ∀ i, i < c.length → W.getD i 0 < 0
  rng : ∀ i, c.length ≤ i → i < L.length → 0 ≤ W.getD i 0 ∧ (W.getD i 0).toNat < kn.length
  mem : ∀ i, c.length ≤ i → i < L.length → L.getD i 0 ∈ kn.getD (W.getD i 0).toNat []
  oth : ∀ i, c.length ≤ i → i < L.length → ∀ y ∈ kn.getD (W.getD i 0).toNat [], y ≠ L.getD i 0 → -y ∈ L.take i
  con : ∀ x ∈ L, -x ∉ L

theorem getD_snocI {l : List Int} {x : Int} {i : Nat} : (l ++ [x]).getD i 0 = if i < l.length then l.getD i 0 else if i = l.length then x else 0 := by
  by_cases h : i < l.length
  · rw [if_pos h, List.getD_eq_getElem?_getD, List.getElem?_append_left h, ← List.getD_eq_getElem?_getD]
  · rw [if_neg h, List.getD_eq_getElem?_getD, List.getElem?_append_right (by omega)]
    by_cases e : i = l.length
    · rw [if_pos e, e, Nat.sub_self]; rfl
    · rw [if_neg e, List.getElem?_eq_none (by simp; omega)]; rfl
theorem take_snocI {l : List Int} {x : Int} {i : Nat} (h : i ≤ l.length) : (l ++ [x]).take i = l.take i := List.take_append_of_le_length h
theorem rd_on {kn : List (List Int)} (hz : Nz kn) {c : List Int} (hc : Cl c) : Rd kn c (on kn (c.map fun x => -x) (List.replicate (c.map fun x => -x).length (-1))).1 (on kn (c.map fun x => -x) (List.replicate (c.map fun x => -x).length (-1))).2.1 := by
  refine on_keep (ls := kn) (Q := fun t w => Rd kn c t w) ?_ _ _ ?_
  · intro t w h _ hu
    obtain ⟨h1, h2⟩ := unit_mem (by omega : ¬ unit kn t < 0)
    obtain ⟨h3, h4, h5, h6⟩ := must_spec h1
    obtain ⟨u1, _⟩ := idx_mem (p := fun l => !decide (must l t = 0)) (l := kn) [] (by show ¬ unit kn t < 0; omega)
    have u1 : (unit kn t).toNat < kn.length := u1
    have hm0 : must (kn.getD (unit kn t).toNat []) t ≠ 0 := h1
    generalize hm : must (kn.getD (unit kn t).toNat []) t = m at *
    have hlo := h.lo
    refine ⟨?_, ?_, ?_, ?_, ?_, ?_, ?_, ?_⟩
    · rw [List.length_append, List.length_append, h.len]; rfl
    · rw [take_snocI h.lo]; exact h.pre
    · rw [List.length_append]; omega
    · intro i hi
      rw [getD_snocI, if_pos (by rw [← h.len]; omega)]
      exact h.dec i hi
    · intro i h7 h8
      rw [List.length_append, List.length_singleton] at h8
      rw [getD_snocI]
      by_cases e : i < w.length
      · rw [if_pos e]; exact h.rng i h7 (by rw [h.len]; exact e)
      · rw [if_neg e, if_pos (by rw [← h.len] at e ⊢; omega)]; exact ⟨hu, u1⟩
    · intro i h7 h8
      rw [List.length_append, List.length_singleton] at h8
      rw [getD_snocI, getD_snocI, ← h.len]
      by_cases e : i < t.length
      · rw [if_pos e, if_pos e]; exact h.mem i h7 e
      · rw [if_neg e, if_pos (by omega), if_neg e, if_pos (by omega)]; exact h3
    · intro i h7 h8
      rw [List.length_append, List.length_singleton] at h8
      rw [getD_snocI, getD_snocI, ← h.len, take_snocI (by omega)]
      by_cases e : i < t.length
      · rw [if_pos e, if_pos e]; exact h.oth i h7 e
      · rw [if_neg e, if_pos (by omega), if_neg e, if_pos (by omega), show i = t.length by omega, List.take_length]
        intro y hy hne
        have := List.all_eq_true.1 h6 y hy
        simp only [Bool.or_eq_true, decide_eq_true_eq] at this
        exact this.resolve_left hne
    · intro x hx hx2
      rcases List.mem_append.1 hx with hx | hx
      · rcases List.mem_append.1 hx2 with hx2 | hx2
        · exact h.con x hx hx2
        · rw [List.mem_singleton] at hx2
          exact h5 (by rw [← hx2, Int.neg_neg]; exact hx)
      · rw [List.mem_singleton] at hx
        rcases List.mem_append.1 hx2 with hx2 | hx2
        · exact h5 (by rw [← hx]; exact hx2)
        · rw [List.mem_singleton] at hx2; omega
  · refine ⟨by simp, by rw [List.take_of_length_le (by simp)], by simp, ?_, ?_, ?_, ?_, ?_⟩
    · intro i hi
      rw [List.getD_eq_getElem?_getD, List.getElem?_replicate, if_pos (by simpa using hi)]
      decide
    · intro i h1 h2; rw [List.length_map] at h2; omega
    · intro i h1 h2; rw [List.length_map] at h2; omega
    · intro i h1 h2; rw [List.length_map] at h2; omega
    · intro x hx hx2
      obtain ⟨y, hy, rfl⟩ := List.mem_map.1 hx
      obtain ⟨z, hz2, e⟩ := List.mem_map.1 hx2
      have : z = -y := by omega
      exact (hc.2 y hy).2 (this ▸ hz2)
abbrev Tq := List Int × Int × Int × List Rs
def tbS (kn : List (List Int)) (nu L W : List Int) (k : Nat) (q : Tq) : Tq :=
  if W.getD k 0 < 0 ∨ -L.getD k 0 ∉ q.1 then q else
    ((resolve (kn.getD (W.getD k 0).toNat []) q.1 (av (L.getD k 0))).getD [], q.2.2.1, q.2.2.1 + 1,
      q.2.2.2 ++ [if L.getD k 0 < 0 then (q.2.1, nu.getD (W.getD k 0).toNat 0, av (L.getD k 0)) else (nu.getD (W.getD k 0).toNat 0, q.2.1, av (L.getD k 0))])
def tbk (kn : List (List Int)) (nu L W : List Int) : Nat → Tq → Tq
  | 0, q => q
  | k + 1, q => tbk kn nu L W k (tbS kn nu L W k q)
theorem tbS_skip {kn : List (List Int)} {nu L W : List Int} {k : Nat} {q : Tq} (h : W.getD k 0 < 0 ∨ -L.getD k 0 ∉ q.1) : tbS kn nu L W k q = q := if_pos h
theorem tbS_go {kn : List (List Int)} {nu L W : List Int} {k : Nat} {q : Tq} (h : ¬ (W.getD k 0 < 0 ∨ -L.getD k 0 ∉ q.1)) : tbS kn nu L W k q =
    ((resolve (kn.getD (W.getD k 0).toNat []) q.1 (av (L.getD k 0))).getD [], q.2.2.1, q.2.2.1 + 1,
      q.2.2.2 ++ [if L.getD k 0 < 0 then (q.2.1, nu.getD (W.getD k 0).toNat 0, av (L.getD k 0)) else (nu.getD (W.getD k 0).toNat 0, q.2.1, av (L.getD k 0))]) := if_neg h
structure Db (n : Nat) (g : List (List Int)) (out : List Rs) (nx : Int) : Prop where
  ok : ∀ i, i < out.length → (resOne (resTo n g out i) (out.getD i (0, 0, 0)) n).2 = 0
  nx : nx = ((g.length + out.length : Nat) : Int)
def dbA (n : Nat) (g : List (List Int)) (out : List Rs) : List (List Int) := resTo n g out out.length
def At (n : Nat) (g : List (List Int)) (out : List Rs) (c : List Int) (i : Int) : Prop :=
  (0 ≤ i ∧ i < ((g.length + out.length : Nat) : Int)) ∧ ∀ x, x ∈ c ↔ x ∈ (dbA n g out).getD i.toNat []
theorem resTo_app {n : Int} {g : List (List Int)} {l m : List Rs} : ∀ i, i ≤ l.length → resTo n g (l ++ m) i = resTo n g l i := by
  intro i hi
  unfold resTo
  rw [List.take_append_of_le_length hi]
theorem getD_snocR {l : List Rs} {r : Rs} : (l ++ [r]).getD l.length (0, 0, 0) = r := by
  rw [List.getD_eq_getElem?_getD, List.getElem?_append_right (Nat.le_refl _), Nat.sub_self]; rfl
theorem getD_leR {l m : List Rs} {i : Nat} (h : i < l.length) : (l ++ m).getD i (0, 0, 0) = l.getD i (0, 0, 0) := by
  rw [List.getD_eq_getElem?_getD, List.getElem?_append_left h, ← List.getD_eq_getElem?_getD]
theorem dbA_snoc (n : Nat) (g : List (List Int)) (out : List Rs) (r : Rs) : dbA n g (out ++ [r]) = dbA n g out ++ [(resOne (dbA n g out) r n).1] := by
  unfold dbA
  rw [List.length_append, List.length_singleton, resTo_succ (by rw [List.length_append, List.length_singleton]; omega), resTo_app _ (Nat.le_refl _), getD_snocR]
theorem dbA_len (n : Nat) (g : List (List Int)) (out : List Rs) : (dbA n g out).length = g.length + out.length := resTo_len _ (Nat.le_refl _)
theorem Db.snoc {n : Nat} {g : List (List Int)} {out : List Rs} {nx : Int} (h : Db n g out nx) {r : Rs} (hr : (resOne (dbA n g out) r n).2 = 0) : Db n g (out ++ [r]) (nx + 1) where
  ok := by
    intro i hi
    rw [List.length_append, List.length_singleton] at hi
    by_cases e : i < out.length
    · rw [resTo_app _ (by omega), getD_leR e]; exact h.ok i e
    · obtain rfl : i = out.length := by omega
      rw [resTo_app _ (Nat.le_refl _), getD_snocR]; exact hr
  nx := by rw [h.nx, List.length_append, List.length_singleton]; omega
theorem getD_leC {l m : List (List Int)} {i : Nat} (h : i < l.length) : (l ++ m).getD i [] = l.getD i [] := by
  rw [List.getD_eq_getElem?_getD, List.getElem?_append_left h, ← List.getD_eq_getElem?_getD]
theorem getD_snocC {l : List (List Int)} {r : List Int} : (l ++ [r]).getD l.length [] = r := by
  rw [List.getD_eq_getElem?_getD, List.getElem?_append_right (Nat.le_refl _), Nat.sub_self]; rfl
theorem At.snoc {n : Nat} {g : List (List Int)} {out : List Rs} {c : List Int} {i : Int} (h : At n g out c i) (r : Rs) : At n g (out ++ [r]) c i := by
  have h1 := h.1
  refine ⟨by rw [List.length_append]; omega, fun x => ?_⟩
  rw [dbA_snoc, getD_leC (by rw [dbA_len]; omega)]
  exact h.2 x
theorem okc_nodup {n : Nat} {c : List Int} (h : Okc n c) : Cl c := by
  refine ⟨?_, fun x hx => ⟨(h.1 x hx).1, fun h2 => ?_⟩⟩
  · rw [List.nodup_iff_pairwise_ne]
    exact h.2.imp fun h1 e => h1 (by rw [e])
  · have := okc_eq h hx h2 (by unfold av; omega)
    have := (h.1 x hx).1
    omega
theorem res_go {n : Nat} {a b T : List Int} {l : Int} (ha : Okc n a) (hb : Okc n b) (hT : ∀ x ∈ T, -x ∉ T) (hla : l ∈ a) (hlb : -l ∈ b) (h1 : ∀ y ∈ a, y ≠ l → -y ∈ T) (h2 : ∀ y ∈ b, y ≠ -l → -y ∈ T) :
    ∃ r, resolve a b (av l) = Option.some r ∧ Okc n r ∧ (∀ y, y ∈ r ↔ (y ∈ a ∨ y ∈ b) ∧ av y ≠ av l) ∧ ∀ y ∈ r, -y ∈ T := by
  cases hr : resolve a b (av l) with
  | some r =>
    have hm := resolve_mem hr
    refine ⟨r, rfl, resolve_okc ha hb hr, hm, fun y hy => ?_⟩
    obtain ⟨g1, g2⟩ := (hm y).1 hy
    rcases g1 with g1 | g1
    · exact h1 y g1 (fun e => g2 (by rw [e]))
    · exact h2 y g1 (fun e => g2 (by rw [e]; unfold av; omega))
  | none =>
    exfalso
    unfold resolve at hr
    have hr' : resGo (av l) [] (a ++ b) = none := by
      cases e2 : resGo (av l) [] (a ++ b) with
      | none => rfl
      | some z => rw [e2] at hr; cases hr
    obtain ⟨y, g1, g2, g3⟩ := resGo_both _ _ hr'
    have g3 : -y ∈ a ++ b := g3.resolve_left (fun h => List.not_mem_nil h)
    have key : ∀ z, z ∈ a ++ b → av z ≠ av l → -z ∈ T := by
      intro z hz hne
      rcases List.mem_append.1 hz with hz | hz
      · exact h1 z hz (fun e => hne (by rw [e]))
      · exact h2 z hz (fun e => hne (by rw [e]; unfold av; omega))
    have k1 := key y g2 g1
    have k2 := key (-y) g3 (by unfold av at g1 ⊢; omega)
    rw [Int.neg_neg] at k2
    exact hT _ k2 k1
theorem res2_go {n : Nat} {a b a' b' r : List Int} {v : Int} (hr : resolve a b v = Option.some r) (hm : ∀ y, y ∈ r ↔ (y ∈ a ∨ y ∈ b) ∧ av y ≠ v) (hno : ∀ y ∈ r, -y ∉ r) (hz : ∀ y ∈ r, y ≠ 0) (ha : ∀ x, x ∈ a ↔ x ∈ a') (hb : ∀ x, x ∈ b ↔ x ∈ b')
    (h1 : v ∈ a') (h2 : -v ∈ b') : (res2 a' b' v).2 = 0 ∧ ∀ y, y ∈ r ↔ y ∈ (res2 a' b' v).1 := by
  have h0 : (res2 a' b' v).2 = 0 := by
    unfold res2
    rw [if_neg (by intro h; rcases h with h | h; exact h h1; exact h h2)]
    rw [if_pos]
    cases hq : resolve a' b' v with
    | some q => rfl
    | none =>
      exfalso
      unfold resolve at hq
      have hr' : resGo v [] (a' ++ b') = none := by
        cases e2 : resGo v [] (a' ++ b') with
        | none => rfl
        | some z => rw [e2] at hq; cases hq
      obtain ⟨y, g1, g2, g3⟩ := resGo_both _ _ hr'
      have g3 : -y ∈ a' ++ b' := g3.resolve_left (fun h => List.not_mem_nil h)
      have key : ∀ z, z ∈ a' ++ b' → av z ≠ v → z ∈ r := fun z hz hne => (hm z).2 ⟨(List.mem_append.1 hz).imp (ha z).2 (hb z).2, hne⟩
      exact hno y (key y g2 g1) (key (-y) g3 (by unfold av at g1 ⊢; omega))
  refine ⟨h0, fun y => ?_⟩
  obtain ⟨_, _, h3⟩ := res2_mem h0
  rw [h3 y, hm y, ha y, hb y]
structure Tb (n : Nat) (g kn : List (List Int)) (nu L : List Int) (k : Nat) (q : Tq) : Prop where
  db : Db n g q.2.2.2 q.2.2.1
  nu : ∀ i, i < kn.length → At n g q.2.2.2 (kn.getD i []) (nu.getD i 0)
  at_ : At n g q.2.2.2 q.1 q.2.1
  okc : Okc n q.1
  neg : ∀ x ∈ q.1, -x ∈ L.take k
theorem tb_step {n : Nat} {g kn : List (List Int)} {nu c L W : List Int} (hkn : ∀ c ∈ kn, Okc n c) (hrd : Rd kn c L W) {k : Nat} (hk : k < L.length) {q : Tq} (hj : c.length ≤ k) (h : Tb n g kn nu L (k + 1) q) : Tb n g kn nu L k (tbS kn nu L W k q) := by
  have htk : L.take (k + 1) = L.take k ++ [L.getD k 0] := take_getD L k 0 hk
  have hlL : L.getD k 0 ∈ L := getD_mem L k 0 hk
  obtain ⟨w0, w1⟩ := hrd.rng k hj hk
  by_cases hs : W.getD k 0 < 0 ∨ -L.getD k 0 ∉ q.1
  · rw [tbS_skip hs]
    have hs' : -L.getD k 0 ∉ q.1 := hs.resolve_left (by omega)
    refine ⟨h.db, h.nu, h.at_, h.okc, fun x hx => ?_⟩
    have h1 := h.neg x hx
    rw [htk] at h1
    rcases List.mem_append.1 h1 with h1 | h1
    · exact h1
    · rw [List.mem_singleton] at h1
      exact absurd (by rw [← h1, Int.neg_neg]; exact hx) hs'
  · rw [tbS_go hs]
    have hin : -L.getD k 0 ∈ q.1 := Decidable.byContradiction fun h => hs (.inr h)
    generalize hA : kn.getD (W.getD k 0).toNat [] = A at *
    have hAm : A ∈ kn := by rw [← hA]; exact getD_mem kn _ [] w1
    have hoA := hkn A hAm
    have hla : L.getD k 0 ∈ A := by rw [← hA]; exact hrd.mem k hj hk
    have hoth : ∀ y ∈ A, y ≠ L.getD k 0 → -y ∈ L.take k := by rw [← hA]; exact hrd.oth k hj hk
    have hnow : ∀ y ∈ q.1, y ≠ -L.getD k 0 → -y ∈ L.take k := by
      intro y hy hne
      have h1 := h.neg y hy
      rw [htk] at h1
      rcases List.mem_append.1 h1 with h1 | h1
      · exact h1
      · rw [List.mem_singleton] at h1; exact absurd (by omega) hne
    have hT : ∀ x ∈ L.take k, -x ∉ L.take k := fun x hx h2 => hrd.con x (List.mem_of_mem_take hx) (List.mem_of_mem_take h2)
    obtain ⟨r, hr, hor, hm, hng⟩ := res_go hoA h.okc hT hla hin hoth hnow
    have hAat := h.nu _ w1
    rw [hA] at hAat
    have hl0 : L.getD k 0 ≠ 0 := (hoA.1 _ hla).1
    have hlb := hoA.1 _ hla
    have hclr := okc_nodup hor
    have hav : av (L.getD k 0) = if L.getD k 0 < 0 then -L.getD k 0 else L.getD k 0 := by unfold av; split <;> omega
    -- the resolution, as it is checked
    have hone : (resOne (dbA n g q.2.2.2) (if L.getD k 0 < 0 then (q.2.1, nu.getD (W.getD k 0).toNat 0, av (L.getD k 0)) else (nu.getD (W.getD k 0).toNat 0, q.2.1, av (L.getD k 0))) n).2 = 0 ∧
        ∀ y, y ∈ r ↔ y ∈ (resOne (dbA n g q.2.2.2) (if L.getD k 0 < 0 then (q.2.1, nu.getD (W.getD k 0).toNat 0, av (L.getD k 0)) else (nu.getD (W.getD k 0).toNat 0, q.2.1, av (L.getD k 0))) n).1 := by
      have b1 := hAat.1
      have b2 := h.at_.1
      have hlen := dbA_len n g q.2.2.2
      by_cases hneg : L.getD k 0 < 0
      · rw [if_pos hneg]
        rw [if_pos hneg] at hav
        have e : resOne (dbA n g q.2.2.2) (q.2.1, nu.getD (W.getD k 0).toNat 0, av (L.getD k 0)) n = res2 ((dbA n g q.2.2.2).getD q.2.1.toNat []) ((dbA n g q.2.2.2).getD (nu.getD (W.getD k 0).toNat 0).toNat []) (av (L.getD k 0)) := by
          unfold resOne
          rw [if_neg]
          simp only [hlen]
          omega
        rw [e]
        have hm' : ∀ y, y ∈ r ↔ (y ∈ q.1 ∨ y ∈ A) ∧ av y ≠ av (L.getD k 0) := fun y => by rw [hm y, or_comm]
        have h1 : av (L.getD k 0) ∈ (dbA n g q.2.2.2).getD q.2.1.toNat [] := by rw [hav]; exact (h.at_.2 _).1 hin
        have h2 : -av (L.getD k 0) ∈ (dbA n g q.2.2.2).getD (nu.getD (W.getD k 0).toNat 0).toNat [] := by rw [hav, Int.neg_neg]; exact (hAat.2 _).1 hla
        have h3 : (res2 ((dbA n g q.2.2.2).getD q.2.1.toNat []) ((dbA n g q.2.2.2).getD (nu.getD (W.getD k 0).toNat 0).toNat []) (av (L.getD k 0))).2 = 0 := by
          cases hq : resolve q.1 A (av (L.getD k 0)) with
          | some q' =>
            have hmq := resolve_mem hq
            exact (res2_go (n := n) hq hmq (fun y hy hy2 => by
              have i1 := (hm' y).2 ((hmq y).1 hy)
              have i2 := (hm' (-y)).2 ((hmq (-y)).1 hy2)
              exact (hclr.2 y i1).2 i2) (fun y hy => (hclr.2 y ((hm' y).2 ((hmq y).1 hy))).1) h.at_.2 hAat.2 h1 h2).1
          | none =>
            exfalso
            unfold resolve at hq
            have hr' : resGo (av (L.getD k 0)) [] (q.1 ++ A) = none := by
              cases e2 : resGo (av (L.getD k 0)) [] (q.1 ++ A) with
              | none => rfl
              | some z => rw [e2] at hq; cases hq
            obtain ⟨y, g1, g2, g3⟩ := resGo_both _ _ hr'
            have g3 : -y ∈ q.1 ++ A := g3.resolve_left (fun h => List.not_mem_nil h)
            have i1 := (hm' y).2 ⟨List.mem_append.1 g2, g1⟩
            have i2 := (hm' (-y)).2 ⟨List.mem_append.1 g3, by unfold av at g1 ⊢; omega⟩
            exact (hclr.2 y i1).2 i2
        refine ⟨h3, fun y => ?_⟩
        obtain ⟨_, _, h4⟩ := res2_mem h3
        rw [h4 y, hm' y, ← h.at_.2 y, ← hAat.2 y]
      · rw [if_neg hneg]
        rw [if_neg hneg] at hav
        have e : resOne (dbA n g q.2.2.2) (nu.getD (W.getD k 0).toNat 0, q.2.1, av (L.getD k 0)) n = res2 ((dbA n g q.2.2.2).getD (nu.getD (W.getD k 0).toNat 0).toNat []) ((dbA n g q.2.2.2).getD q.2.1.toNat []) (av (L.getD k 0)) := by
          unfold resOne
          rw [if_neg]
          simp only [hlen]
          omega
        rw [e]
        exact res2_go (n := n) hr hm (fun y hy => (hclr.2 y hy).2) (fun y hy => (hclr.2 y hy).1) hAat.2 h.at_.2 (by rw [hav]; exact (hAat.2 _).1 hla) (by rw [hav]; exact (h.at_.2 _).1 hin)
    generalize hR : (if L.getD k 0 < 0 then (q.2.1, nu.getD (W.getD k 0).toNat 0, av (L.getD k 0)) else (nu.getD (W.getD k 0).toNat 0, q.2.1, av (L.getD k 0))) = R at hone ⊢
    refine ⟨h.db.snoc hone.1, fun i hi => (h.nu i hi).snoc R, ?_, ?_, ?_⟩
    · show At n g (q.2.2.2 ++ [R]) ((resolve A q.1 (av (L.getD k 0))).getD []) q.2.2.1
      rw [hr, h.db.nx]
      refine ⟨by rw [List.length_append, List.length_singleton]; omega, fun x => ?_⟩
      rw [dbA_snoc, Int.toNat_natCast, ← dbA_len n g q.2.2.2, getD_snocC]
      exact hone.2 x
    · show Okc n ((resolve A q.1 (av (L.getD k 0))).getD [])
      rw [hr]; exact hor
    · show ∀ x ∈ (resolve A q.1 (av (L.getD k 0))).getD [], _
      rw [hr]; exact hng
theorem tb_dec {kn : List (List Int)} {nu c L W : List Int} (hrd : Rd kn c L W) : ∀ (k : Nat) (q : Tq), k ≤ c.length → tbk kn nu L W k q = q
  | 0, _, _ => rfl
  | k + 1, q, h => by rw [tbk, tbS_skip (.inl (hrd.dec k (by omega))), tb_dec hrd k q (by omega)]
theorem tb_all {n : Nat} {g kn : List (List Int)} {nu c L W : List Int} (hkn : ∀ c ∈ kn, Okc n c) (hrd : Rd kn c L W) : ∀ (k : Nat) (q : Tq), c.length ≤ k → k ≤ L.length → Tb n g kn nu L k q → Tb n g kn nu L c.length (tbk kn nu L W k q)
  | 0, q, h1, _, h => by
    have : c.length = 0 := by omega
    rw [this]
    exact h
  | k + 1, q, h1, h2, h => by
    by_cases e : c.length = k + 1
    · rw [tb_dec hrd (k + 1) q (by omega), e]; exact h
    · exact tb_all hkn hrd k _ (by omega) (by omega) (tb_step hkn hrd (by omega) (by omega) h)
structure Trs where
  kn : List (List Int)
  nu : List Int
  nx : Int
  out : List Rs
def trOn (kn : List (List Int)) (c : List Int) : List Int × List Int × Int := on kn (c.map fun x => -x) (List.replicate (c.map fun x => -x).length (-1))
def Trs.q (s : Trs) (c : List Int) : Tq := tbk s.kn s.nu (trOn s.kn c).1 (trOn s.kn c).2.1 (trOn s.kn c).1.length (litSort (s.kn.getD (trOn s.kn c).2.2.toNat []), s.nu.getD (trOn s.kn c).2.2.toNat 0, s.nx, s.out)
def Trs.step (s : Trs) (c : List Int) : Trs := ⟨s.kn ++ [(s.q c).1], s.nu ++ [(s.q c).2.1], (s.q c).2.2.1, (s.q c).2.2.2⟩
def Trs.done (s : Trs) : Bool := s.kn.any fun l => decide (l = [])
def trGo : List (List Int) → Trs → List Rs × Int × Int
  | [], s => (s.out, 0, 0)
  | c :: r, s => if s.done = true then (s.out, 0, 0) else if 2000 < (s.step c).out.length then ([], 2, -1) else trGo r (s.step c)
def trZero (g : List (List Int)) : Trs := ⟨g, (List.range g.length).map fun i : Nat => (i : Int), g.length, []⟩
def trOf (g st : List (List Int)) : List Rs × Int × Int := trGo st (trZero g)
structure Ti (n : Nat) (g ls : List (List Int)) (s : Trs) : Prop where
  nl : s.nu.length = s.kn.length
  okc : ∀ c ∈ s.kn, Okc n c
  db : Db n g s.out s.nx
  nu : ∀ i, i < s.kn.length → At n g s.out (s.kn.getD i []) (s.nu.getD i 0)
  sub : ∀ c ∈ ls, ∃ d ∈ s.kn, ∀ x ∈ d, x ∈ c
  ol : s.out.length ≤ 2000
theorem rup_sub {ls kn : List (List Int)} {c : List Int} (h : Rup ls c) (hs : ∀ c ∈ ls, ∃ d ∈ kn, ∀ x ∈ d, x ∈ c) : Rup kn c := by
  intro T hT
  refine h T (fun m hm => ?_)
  obtain ⟨d, hd, hdm⟩ := hs m hm
  obtain ⟨⟨x, hx, hxT⟩, h2⟩ := hT d hd
  refine ⟨⟨x, hdm x hx, hxT⟩, fun l hl hall => ?_⟩
  have e : x = l := Classical.byContradiction fun hne => hxT (hall x (hdm x hx) hne)
  subst e
  exact h2 x hx (fun y hy hne => hall y (hdm y hy) hne)
theorem Ti.zero {n : Nat} {g : List (List Int)} (h : ∀ c ∈ g, Okc n c) : Ti n g g (trZero g) where
  nl := by simp [trZero]
  okc := h
  db := ⟨fun i hi => absurd hi (Nat.not_lt_zero i), by simp [trZero]⟩
  nu := by
    intro i hi
    have hi : i < g.length := hi
    have e : (trZero g).nu.getD i 0 = (i : Int) := by
      show ((List.range g.length).map fun i : Nat => (i : Int)).getD i 0 = i
      rw [List.getD_eq_getElem?_getD, List.getElem?_map, List.getElem?_range hi]
      rfl
    rw [e]
    exact ⟨by show 0 ≤ (i : Int) ∧ (i : Int) < ((g.length + 0 : Nat) : Int); omega, fun x => by rw [Int.toNat_natCast]; exact Iff.rfl⟩
  sub := fun c hc => ⟨c, hc, fun x hx => hx⟩
  ol := Nat.zero_le _
theorem Ti.q {n : Nat} {g ls : List (List Int)} {s : Trs} (h : Ti n g ls s) {c : List Int} (hc : Okc n c) (hr : Rup ls c) : 0 ≤ (trOn s.kn c).2.2 ∧ (trOn s.kn c).2.2.toNat < s.kn.length ∧ Rd s.kn c (trOn s.kn c).1 (trOn s.kn c).2.1 ∧
    Tb n g s.kn s.nu (trOn s.kn c).1 (trOn s.kn c).1.length (litSort (s.kn.getD (trOn s.kn c).2.2.toNat []), s.nu.getD (trOn s.kn c).2.2.toNat 0, s.nx, s.out) ∧ Tb n g s.kn s.nu (trOn s.kn c).1 c.length (s.q c) := by
  have hz : Nz s.kn := fun d hd x hx => ((h.okc d hd).1 x hx).1
  have h1 := rup_falls hz (w := List.replicate (c.map fun x => -x).length (-1)) (rup_sub hr h.sub)
  have h1 : 0 ≤ (trOn s.kn c).2.2 := h1
  have hrd := rd_on hz (okc_nodup hc)
  have hbad : (trOn s.kn c).2.2 = conf s.kn (trOn s.kn c).1 := by
    rcases onV_end s.kn (c.map fun x => -x) (List.replicate (c.map fun x => -x).length (-1)) with ⟨_, h3⟩ | ⟨_, _, h3⟩
    · exact h3
    · have h3 : (trOn s.kn c).2.2 = -1 := h3
      omega
  obtain ⟨c1, c2, c3⟩ := conf_at hz (T := (trOn s.kn c).1) (by omega)
  rw [← hbad] at c1 c2 c3
  have hb := h.nu _ c1
  have h5 : Tb n g s.kn s.nu (trOn s.kn c).1 (trOn s.kn c).1.length (litSort (s.kn.getD (trOn s.kn c).2.2.toNat []), s.nu.getD (trOn s.kn c).2.2.toNat 0, s.nx, s.out) :=
    ⟨h.db, h.nu, ⟨hb.1, fun x => by rw [← hb.2 x]; exact litSort_mem⟩, okc_sort (h.okc _ c2), fun x hx => by rw [List.take_length]; exact c3 x (litSort_mem.1 hx)⟩
  exact ⟨h1, c1, hrd, h5, tb_all h.okc hrd _ _ hrd.lo (Nat.le_refl _) h5⟩
theorem Ti.step {n : Nat} {g ls : List (List Int)} {s : Trs} (h : Ti n g ls s) {c : List Int} (hc : Okc n c) (hr : Rup ls c) (ho : (s.step c).out.length ≤ 2000) : Ti n g (ls ++ [c]) (s.step c) ∧ ∀ x ∈ (s.q c).1, x ∈ c := by
  obtain ⟨h1, h2, h3, h4, h5⟩ := h.q hc hr
  have hsub : ∀ x ∈ (s.q c).1, x ∈ c := by
    intro x hx
    have h6 := h5.neg x hx
    rw [h3.pre] at h6
    obtain ⟨y, hy, e⟩ := List.mem_map.1 h6
    have : x = y := by omega
    rw [this]; exact hy
  refine ⟨⟨?_, ?_, h5.db, ?_, ?_, ho⟩, hsub⟩
  · show (s.nu ++ [_]).length = (s.kn ++ [_]).length
    rw [List.length_append, List.length_append, h.nl]; rfl
  · intro d hd
    rcases List.mem_append.1 hd with hd | hd
    · exact h.okc d hd
    · rw [List.mem_singleton.1 hd]; exact h5.okc
  · intro i hi
    have hi' : i < (s.kn ++ [(s.q c).1]).length := hi
    rw [List.length_append, List.length_singleton] at hi'
    show At n g (s.q c).2.2.2 ((s.kn ++ [(s.q c).1]).getD i []) ((s.nu ++ [(s.q c).2.1]).getD i 0)
    rw [getD_snocI, h.nl]
    by_cases e : i < s.kn.length
    · rw [getD_leC e, if_pos e]; exact h5.nu i e
    · obtain rfl : i = s.kn.length := by omega
      rw [getD_snocC, if_neg e, if_pos rfl]; exact h5.at_
  · intro d hd
    rcases List.mem_append.1 hd with hd | hd
    · obtain ⟨e, he, h6⟩ := h.sub d hd
      exact ⟨e, List.mem_append_left _ he, h6⟩
    · rw [List.mem_singleton.1 hd]
      exact ⟨_, List.mem_append_right _ (List.mem_singleton.2 rfl), hsub⟩
structure TrOk (n : Nat) (g : List (List Int)) (X : List Rs × Int × Int) : Prop where
  ll : X.1.length ≤ 2000
  ok : ∀ i, i < X.1.length → (resOne (resTo n g X.1 i) (X.1.getD i (0, 0, 0)) n).2 = 0
  fin : 0 < X.1.length → (resTo n g X.1 X.1.length).getD (g.length + X.1.length - 1) [] = []
  code : X.2 = (0, 0) ∨ X = ([], 2, -1)
  none_ : X.2 = (0, 0) → X.1.length = 0 → [] ∈ g
theorem tbk_out {n : Nat} {g kn : List (List Int)} {nu L W : List Int} : ∀ (k : Nat) (q : Tq), (∃ e, (tbk kn nu L W k q).2.2.2 = q.2.2.2 ++ e) ∧ ((tbk kn nu L W k q).2.2.2 = q.2.2.2 → tbk kn nu L W k q = q) ∧ ((tbk kn nu L W k q).2.2.2 ≠ q.2.2.2 → (tbk kn nu L W k q).2.1 = (tbk kn nu L W k q).2.2.1 - 1)
  | 0, q => ⟨⟨[], by rw [List.append_nil]; rfl⟩, fun _ => rfl, fun h => absurd rfl h⟩
  | k + 1, q => by
    rw [tbk]
    by_cases hs : W.getD k 0 < 0 ∨ -L.getD k 0 ∉ q.1
    · rw [tbS_skip hs]; exact tbk_out (n := n) (g := g) k q
    · obtain ⟨⟨e, h1⟩, h2, h3⟩ := tbk_out (n := n) (g := g) (kn := kn) (nu := nu) (L := L) (W := W) k (tbS kn nu L W k q)
      obtain ⟨r, hr⟩ : ∃ r, (tbS kn nu L W k q).2.2.2 = q.2.2.2 ++ [r] := by rw [tbS_go hs]; exact ⟨_, rfl⟩
      have hn : (tbS kn nu L W k q).2.1 = (tbS kn nu L W k q).2.2.1 - 1 := by rw [tbS_go hs]; show q.2.2.1 = q.2.2.1 + 1 - 1; omega
      refine ⟨⟨[r] ++ e, by rw [h1, hr, List.append_assoc]⟩, fun h => ?_, fun _ => ?_⟩
      · exfalso
        rw [h1, hr, List.append_assoc] at h
        have := congrArg List.length h
        simp only [List.length_append, List.length_singleton] at this
        omega
      · by_cases h4 : (tbk kn nu L W k (tbS kn nu L W k q)).2.2.2 = (tbS kn nu L W k q).2.2.2
        · rw [h2 h4]; exact hn
        · exact h3 h4
def Fin (n : Nat) (g : List (List Int)) (s : Trs) : Prop := s.done = true → (s.out.length = 0 → [] ∈ g) ∧ (0 < s.out.length → (dbA n g s.out).getD (g.length + s.out.length - 1) [] = [])
theorem Ti.fin {n : Nat} {g ls : List (List Int)} {s : Trs} (h : Ti n g ls s) {c : List Int} (hc : Okc n c) (hr : Rup ls c) (hd : s.done = false) : Fin n g (s.step c) := by
  intro hdn
  obtain ⟨h1, h2, h3, h4, h5⟩ := h.q hc hr
  have hnil : (s.q c).1 = [] := by
    obtain ⟨d, hd2, e⟩ := List.any_eq_true.1 hdn
    have hd2 : d ∈ s.kn ++ [(s.q c).1] := hd2
    have e : d = [] := of_decide_eq_true e
    rcases List.mem_append.1 hd2 with hd2 | hd2
    · exact absurd (List.any_eq_true.2 ⟨d, hd2, decide_eq_true e⟩) (by rw [show (s.kn.any fun l => decide (l = [])) = false from hd]; decide)
    · rw [← List.mem_singleton.1 hd2]; exact e
  have hq := tbk_out (n := n) (g := g) (kn := s.kn) (nu := s.nu) (L := (trOn s.kn c).1) (W := (trOn s.kn c).2.1) (trOn s.kn c).1.length (litSort (s.kn.getD (trOn s.kn c).2.2.toNat []), s.nu.getD (trOn s.kn c).2.2.toNat 0, s.nx, s.out)
  have hne : (s.q c).2.2.2 ≠ s.out := by
    intro e
    have h6 := hq.2.1 e
    have h7 : (s.q c).1 = litSort (s.kn.getD (trOn s.kn c).2.2.toNat []) := by unfold Trs.q; rw [h6]
    rw [h7] at hnil
    have h8 : s.kn.getD (trOn s.kn c).2.2.toNat [] = [] := by
      have := congrArg List.length hnil
      rw [litSort_len] at this
      exact List.eq_nil_of_length_eq_zero this
    have : s.done = true := List.any_eq_true.2 ⟨_, getD_mem s.kn _ [] h2, decide_eq_true h8⟩
    rw [hd] at this; cases this
  have h6 : (s.q c).2.1 = (s.q c).2.2.1 - 1 := hq.2.2 hne
  have hat := h5.at_
  have hnx := h5.db.nx
  obtain ⟨⟨e, he⟩, _⟩ := hq
  have he : (s.q c).2.2.2 = s.out ++ e := he
  have hlen : 0 < (s.q c).2.2.2.length := by
    rw [he, List.length_append]
    cases e with
    | nil => exact absurd (by rw [he, List.append_nil]) hne
    | cons _ _ => rw [List.length_cons]; omega
  refine ⟨fun h0 => ?_, fun _ => ?_⟩
  · have h0 : (s.q c).2.2.2.length = 0 := h0
    omega
  · show (dbA n g (s.q c).2.2.2).getD (g.length + (s.q c).2.2.2.length - 1) [] = []
    have h7 := hat.2
    rw [hnil, h6, hnx] at h7
    have e2 : (((g.length + (s.q c).2.2.2.length : Nat) : Int) - 1).toNat = g.length + (s.q c).2.2.2.length - 1 := by omega
    rw [e2] at h7
    cases hv : (dbA n g (s.q c).2.2.2).getD (g.length + (s.q c).2.2.2.length - 1) [] with
    | nil => rfl
    | cons x r =>
      rw [hv] at h7
      exact absurd ((h7 x).2 List.mem_cons_self) (List.not_mem_nil)
theorem tr_ok {n : Nat} {g : List (List Int)} : ∀ (st ls : List (List Int)) (s : Trs), Ti n g ls s → Fin n g s → (∀ c ∈ st, Okc n c) → Chain ls st → [] ∈ ls ++ st → TrOk n g (trGo st s)
  | [], ls, s, h, hf, _, _, h0 => by
    rw [List.append_nil] at h0
    obtain ⟨d, hd, hd2⟩ := h.sub _ h0
    have hdn : s.done = true := List.any_eq_true.2 ⟨d, hd, decide_eq_true (by cases d with | nil => rfl | cons x r => exact absurd (hd2 x List.mem_cons_self) List.not_mem_nil)⟩
    obtain ⟨f1, f2⟩ := hf hdn
    exact ⟨h.ol, h.db.ok, f2, .inl rfl, fun _ => f1⟩
  | c :: st, ls, s, h, hf, hok, hch, h0 => by
    rw [trGo]
    by_cases hd : s.done = true
    · rw [if_pos hd]
      obtain ⟨f1, f2⟩ := hf hd
      exact ⟨h.ol, h.db.ok, f2, .inl rfl, fun _ => f1⟩
    rw [if_neg hd]
    by_cases hl : 2000 < (s.step c).out.length
    · rw [if_pos hl]
      exact ⟨Nat.zero_le _, fun i hi => absurd hi (Nat.not_lt_zero i), fun h => absurd h (Nat.not_lt_zero 0), .inr rfl, fun h => by cases h⟩
    rw [if_neg hl]
    have hc := hok c List.mem_cons_self
    have hr : Rup ls c := by
      have := hch 0 (by simp)
      simpa using this
    have hd' : s.done = false := by simpa using hd
    refine tr_ok st (ls ++ [c]) _ (h.step hc hr (by omega)).1 (h.fin hc hr hd') (fun d hd => hok d (List.mem_cons_of_mem _ hd)) (fun i hi => ?_) (by rw [List.append_assoc]; exact h0)
    have := hch (i + 1) (by simpa using hi)
    rw [List.take_succ_cons, List.getD_cons_succ] at this
    rw [List.append_assoc]
    exact this
theorem tr_of {n : Nat} {g st : List (List Int)} (hg : ∀ c ∈ g, Okc n c) (hs : ∀ c ∈ st, Okc n c) (hch : Chain g st) (h0 : [] ∈ g ++ st) : TrOk n g (trOf g st) := by
  refine tr_ok st g (trZero g) (Ti.zero hg) (fun hd => ⟨fun _ => ?_, fun h => absurd h (Nat.not_lt_zero 0)⟩) hs hch h0
  obtain ⟨d, hd, e⟩ := List.any_eq_true.1 hd
  have e : d = [] := of_decide_eq_true e
  rw [← e]; exact hd
theorem TrOk.resO {n : Nat} {g : List (List Int)} {X : List Rs × Int × Int} (h : TrOk n g X) : resR n g X.1 = ((resTo n g X.1 X.1.length).drop g.length, 0, 0) := by
  have hF : ∀ j, j ≤ X.1.length → resF n (resTo n g X.1 (X.1.length - j)) ((X.1.length - j : Nat) : Int) (X.1.drop (X.1.length - j)) = (0, 0) := by
    intro j
    induction j with
    | zero => intro _; exact resF_end (by omega) _
    | succ j ih =>
      intro hj
      have h1 := resF_step (n := (n : Int)) (g := g) (l := X.1) (i := X.1.length - (j + 1)) (by omega) (h.ok _ (by omega))
      rw [h1, show X.1.length - (j + 1) + 1 = X.1.length - j by omega]
      exact ih (by omega)
  have h1 := hF X.1.length (Nat.le_refl _)
  rw [Nat.sub_self] at h1
  have h2 : resF n g 0 X.1 = (0, 0) := h1
  unfold resR
  have := h.ll
  rw [if_neg (by omega), h2, if_neg (by decide)]
end Sp
end Go.Um
