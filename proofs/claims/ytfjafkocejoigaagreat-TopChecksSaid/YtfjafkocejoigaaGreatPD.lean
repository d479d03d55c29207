/- Plain laws: between two sets of clauses. No program in sight. No condition. -/
import Derived.Test.YtfjafkocejoigaaGreatPC
import Derived.Test.YtfjafkocejoigaaGreatPA
namespace Go.Um
namespace Sp

def occ (ls : List (List Int)) (v : Int) : Bool := ls.any fun l => decide (v ∈ l) || decide (-v ∈ l)
def betW (n : Int) (a : List (List Int)) (m : Int) (b : List (List Int)) : Int × Int :=
  if (check n a).1 ≠ 0 then check n a else if (check m b).1 ≠ 0 then check m b else if n ≠ m then (9, -1) else if 16 < n ∨ 400 < a.length + b.length then (2, -1) else (0, 0)
def mcF (b : List (List Int)) (c : List Int) (x : List Bool) : Bool := c.any fun l => occ b (av l) && lit x l
def puB (a b : List (List Int)) (v : Int) (p q : List Bool → Bool) (x : List Bool) : Bool :=
  if occ b v = false then p x || q x else if occ a v = false then p x && q x else if x.getD (v - 1).toNat false = true then q x else p x
def someT (b : List (List Int)) (p : List Bool → Bool) : Nat → List Bool → Bool
  | 0 => p
  | i + 1 => if occ b ((i : Int) + 1) = false then some2 (someT b p i) ((i : Int) + 1) else someT b p i
def apW (n : Int) (a : List (List Int)) (m : Int) (b : List (List Int)) : Int × Int :=
  if (betW n a m b).1 ≠ 0 then betW n a m b else if decide (1 ∈ btab (fun x => all x a && all x b) n.toNat) = true then (11, 0) else (0, 0)
def strO (n : Int) (a : List (List Int)) (m : Int) (b : List (List Int)) : List Cho × Int × Int × Int :=
  if (apW n a m b).1 ≠ 0 then ([], 0, apW n a m b) else diaBuilt n.toNat (dtab (someT b (fun x => all x a) n.toNat) n.toNat)
def weaO (n : Int) (a : List (List Int)) (m : Int) (b : List (List Int)) : List Cho × Int × Int × Int :=
  if (apW n a m b).1 ≠ 0 then ([], 0, apW n a m b) else diaBuilt n.toNat (dtab (fun x => !someT a (fun x => all x b) n.toNat x) n.toNat)
end Sp
end Go.Um

/- Plain laws: resolutions, and what they tell of two sets of clauses. No program in sight. No condition. -/


namespace Go.Um
namespace Sp
abbrev Rs := Int × Int × Int
abbrev Prd := List Bool → Bool

def resGo (v : Int) : List Int → List Int → Option (List Int)
  | out, [] => Option.some out
  | out, l :: r => if av l = v ∨ l ∈ out then resGo v out r else if -l ∈ out then none else resGo v (out ++ [l]) r
def resolve (a b : List Int) (v : Int) : Option (List Int) := (resGo v [] (a ++ b)).map litSort
def res2 (a b : List Int) (v : Int) : List Int × Int :=
  if v ∉ a ∨ -v ∉ b then ([], 5) else if (resolve a b v).isSome = true then ((resolve a b v).getD [], 0) else ([], 7)
def resOne (l : List (List Int)) (r : Rs) (n : Int) : List Int × Int :=
  if r.1 < 0 ∨ (l.length : Int) ≤ r.1 ∨ r.2.1 < 0 ∨ (l.length : Int) ≤ r.2.1 ∨ r.2.2 < 1 ∨ n < r.2.2 then ([], 3) else res2 (l.getD r.1.toNat []) (l.getD r.2.1.toNat []) r.2.2
def resF (n : Int) : List (List Int) → Int → List Rs → Int × Int
  | _, _, [] => (0, 0)
  | all, i, r :: l => if (resOne all r n).2 ≠ 0 then ((resOne all r n).2, i) else resF n (all ++ [(resOne all r n).1]) (i + 1) l
def resTo (n : Int) (g : List (List Int)) (l : List Rs) (i : Nat) : List (List Int) := (l.take i).foldl (fun all r => all ++ [(resOne all r n).1]) g
def resR (n : Int) (g : List (List Int)) (l : List Rs) : List (List Int) × Int × Int :=
  if 2000 < l.length then ([], 2, -1) else if (resF n g 0 l).1 ≠ 0 then ([], resF n g 0 l) else ((resTo n g l l.length).drop g.length, 0, 0)
def resO (n : Int) (g : List (List Int)) (l : List Rs) : List (List Int) × Int × Int := if (check n g).1 ≠ 0 then ([], check n g) else resR n g l
def Okc (n : Nat) (c : List Int) : Prop := Good n c ∧ c.Pairwise fun x y => av x ≠ av y

theorem pos_len : ∀ (m : Nat) (l : List Int), (∀ x ∈ l, 1 ≤ x ∧ x ≤ m) → l.Pairwise (fun x y => x ≠ y) → l.length ≤ m := by
  intro m
  induction m with
  | zero =>
    intro l h _
    cases l with
    | nil => simp
    | cons x l => have := h x (by simp); omega
  | succ m ih =>
    intro l h hp
    have hf := ih (l.filter (fun (x : Int) => decide (x ≠ ((m + 1 : Nat) : Int)))) (fun x hx => by
      simp only [List.mem_filter, decide_eq_true_eq] at hx
      have := h x hx.1
      omega) (hp.filter _)
    have hc : l.length ≤ (l.filter (fun (x : Int) => decide (x ≠ ((m + 1 : Nat) : Int)))).length + 1 := by
      clear ih hf h
      induction l with
      | nil => simp
      | cons x l ih2 =>
        rw [List.pairwise_cons] at hp
        by_cases e : x = ((m + 1 : Nat) : Int)
        · have : l.filter (fun (x : Int) => decide (x ≠ ((m + 1 : Nat) : Int))) = l := by
            rw [List.filter_eq_self]
            intro y hy
            have := hp.1 y hy
            simp only [ne_eq, decide_eq_true_eq]
            omega
          simp only [List.filter_cons, e, ne_eq, not_true_eq_false, decide_false, Bool.false_eq_true, if_false, List.length_cons]
          simp only [ne_eq] at this
          rw [this]
          exact Nat.le_refl _
        · have := ih2 hp.2
          simp only [List.filter_cons, ne_eq, e, not_false_eq_true, decide_true, if_true, List.length_cons]
          simp only [ne_eq] at this
          omega
    omega

theorem okc_len {n : Nat} {c : List Int} (h : Okc n c) : c.length ≤ n := by
  have := pos_len n (c.map av) (fun x hx => by
    obtain ⟨y, hy, rfl⟩ := List.mem_map.1 hx
    have := h.1 y hy
    unfold av
    omega) (List.pairwise_map.2 h.2)
  simpa using this

theorem av_or {x y : Int} (h : av x = av y) : x = y ∨ x = -y := by unfold av at h; omega

theorem okc_snoc {n : Nat} {out : List Int} {y : Int} (h : Okc n out) (hy : y ≠ 0 ∧ -(n : Int) ≤ y ∧ y ≤ n) (h1 : y ∉ out) (h2 : -y ∉ out) : Okc n (out ++ [y]) := by
  refine ⟨fun x hx => ?_, List.pairwise_append.2 ⟨h.2, List.pairwise_singleton _ _, fun x hx z hz => ?_⟩⟩
  · rcases List.mem_append.1 hx with hx | hx
    · exact h.1 x hx
    · rw [List.mem_singleton.1 hx]; exact hy
  · rw [List.mem_singleton.1 hz]
    intro e
    rcases av_or e with rfl | rfl
    · exact h1 hx
    · exact h2 hx

section
variable {v : Int} {out L : List Int} {i : Nat}
end
theorem okc_nil (n : Nat) : Okc n [] := ⟨fun x hx => (List.not_mem_nil hx).elim, List.Pairwise.nil⟩

theorem check_okc {n : Nat} {a : List (List Int)} (h : (check n a).1 = 0) : ∀ c ∈ a, Okc n c := fun c hc => wrong_iff.1 ((check_ok h).2.2 c hc).2

def pf : Prd := fun _ => false
def sysF (e : Bool) (b : List (List Int)) (c : List Int) : Prd := if e = true then fun _ => false else mcF b c
def sysB (e : Bool) (a b : List (List Int)) (v : Int) (p q : Prd) : Prd := if e = true then puB a b v p q else fun x => if occ b v = true then p x && q x else p x || q x
def prtS (e : Bool) (a b : List (List Int)) (P : List Prd) (r : Rs) : Prd := sysB e a b r.2.2 (P.getD r.1.toNat pf) (P.getD r.2.1.toNat pf)
def prt0 (e : Bool) (a b : List (List Int)) : List Prd := a.map (sysF e b) ++ b.map fun _ => fun _ => true
def prtTo (e : Bool) (a b : List (List Int)) (l : List Rs) (i : Nat) : List Prd := (l.take i).foldl (fun P r => P ++ [prtS e a b P r]) (prt0 e a b)
def lastP (e : Bool) (a b : List (List Int)) (l : List Rs) : Prd := (prtTo e a b l l.length).getD (a.length + b.length + l.length - 1) pf
def takO (e : Bool) (n : Int) (a : List (List Int)) (m : Int) (b : List (List Int)) (l : List Rs) : DF :=
  if (betW n a m b).1 ≠ 0 then ([], 0, betW n a m b) else if (resO n (a ++ b) l).2.1 ≠ 0 then ([], 0, (resO n (a ++ b) l).2)
  else if l.length = 0 ∨ 0 < ((resO n (a ++ b) l).1.getD (l.length - 1) []).length then ([], 0, 11, 0) else diaBuilt n.toNat (dtab (lastP e a b l) n.toNat)
def prfW (n : Int) (a : List (List Int)) (m : Int) (b : List (List Int)) (l : List Rs) : Int × Int :=
  if (betW n a m b).1 ≠ 0 then betW n a m b else if (resR n (a ++ b) l).2.1 ≠ 0 then (resR n (a ++ b) l).2
  else if l.length = 0 ∨ 0 < ((resR n (a ++ b) l).1.getD (l.length - 1) []).length then (11, 0) else (0, 0)
structure Prf (k : Nat) (a b : List (List Int)) (l : List Rs) : Prop where
  k16 : k ≤ 16
  ca : (check k a).1 = 0
  cb : (check k b).1 = 0
  lab : a.length + b.length ≤ 400
  ll : l.length ≤ 2000
  l0 : 0 < l.length
  ok : ∀ i, i < l.length → (resOne (resTo k (a ++ b) l i) (l.getD i (0, 0, 0)) k).2 = 0
  fin : (resTo k (a ++ b) l l.length).getD (a.length + b.length + l.length - 1) [] = []
end Sp
end Go.Um

/- Plain law: what a proof tells stands between two sets of clauses. No program in sight. No condition. -/


namespace Go.Um
namespace Sp
def Ind : Nat → List Bool → Nat → Prop
  | 0, _, _ => True
  | m + 1, t, 0 => t.take (2 ^ m) = (t.drop (2 ^ m)).take (t.length - 2 ^ m)
  | m + 1, t, r + 1 => Ind m (t.take (2 ^ m)) r ∧ Ind m ((t.drop (2 ^ m)).take (t.length - 2 ^ m)) r

def Ex (S : Int → Bool) (c : List Int) (x : List Bool) : Prop := ∃ y ∈ c, S (av y) = true ∧ lit x y = true
def Dep (a b : List (List Int)) (p : Prd) : Prop := ∀ x x', (∀ v, 1 ≤ v → occ a v = true → occ b v = true → x.getD (v - 1).toNat false = x'.getD (v - 1).toNat false) → p x = p x'
structure Btw (a b : List (List Int)) (c : List Int) (p q : Prd) : Prop where
  m1 : ∀ x, all x a = true → p x = true ∨ Ex (fun v => !occ b v) c x
  m2 : ∀ x, all x b = true → p x = true → Ex (occ b) c x
  q1 : ∀ x, all x a = true → q x = true ∨ Ex (occ a) c x
  q2 : ∀ x, all x b = true → q x = true → Ex (occ b) c x
  pq : ∀ x, p x = true → q x = true ∨ Ex (fun v => occ a v && occ b v) c x
  dp : Dep a b p
  dq : Dep a b q

theorem pair_mem {R : Int → Int → Prop} : ∀ {l : List Int}, l.Pairwise R → ∀ {x y : Int}, x ∈ l → y ∈ l → x = y ∨ R x y ∨ R y x
  | [], _, x, y, hx, _ => (List.not_mem_nil hx).elim
  | z :: l, h, x, y, hx, hy => by
    rw [List.pairwise_cons] at h
    rcases List.mem_cons.1 hx with e1 | h1
    · rcases List.mem_cons.1 hy with e2 | h2
      · exact .inl (e1.trans e2.symm)
      · exact .inr (.inl (by rw [e1]; exact h.1 y h2))
    · rcases List.mem_cons.1 hy with e2 | h2
      · exact .inr (.inr (by rw [e2]; exact h.1 x h1))
      · exact pair_mem h.2 h1 h2
theorem okc_eq {n : Nat} {c : List Int} (h : Okc n c) {x y : Int} (hx : x ∈ c) (hy : y ∈ c) (e : av x = av y) : x = y := by
  rcases pair_mem h.2 hx hy with h1 | h1 | h1
  · exact h1
  · exact absurd e h1
  · exact absurd e.symm h1

section
variable {n : Nat} {c1 c2 c : List Int} {v : Int} {x : List Bool}
end

end Sp
end Go.Um

/- Plain: clauses out of numbers, models counted, a variable that goes. No program in sight. No condition. -/


namespace Go.Um
namespace Sp
def q64 (x y : Int) : Int := IntKind.i64.wrap (x.tdiv y)
def picked (a n : Int) : Int := if a.tmod n < 0 then a.tmod n + n else a.tmod n
theorem tmod_rng (a : Int) {n : Int} (hn : 0 < n) : -n < a.tmod n ∧ a.tmod n < n := ⟨Int.lt_tmod_of_pos a hn, Int.tmod_lt_of_pos a hn⟩
theorem picked_rng (a : Int) {n : Int} (hn : 0 < n) : 0 ≤ picked a n ∧ picked a n < n := by
  have h := tmod_rng a hn
  unfold picked
  split <;> omega
def had (c : List Int) (v : Int) : Bool := c.any fun y => decide (y = v) || decide (y = -v)
def clLit (m x : Int) : Int := if (q64 (q64 x 3) m).tmod 2 ≠ 0 then -(1 + picked (q64 x 3) m) else 1 + picked (q64 x 3) m
def clAdd (m x : Int) (c : List Int) : List Int := if had c (1 + picked (q64 x 3) m) = true then c else c ++ [clLit m x]
def clGo (m : Int) : Nat → Int → Int → List Int → List Int
  | 0, _, _, c => c
  | f + 1, k, x, c => if k ≤ picked x 3 then clGo m f (k + 1) (q64 (q64 x 3) m) (clAdd m x c) else c
theorem clGo_go {m k x : Int} {f : Nat} {c : List Int} (h : k ≤ picked x 3) : clGo m (f + 1) k x c = clGo m f (k + 1) (q64 (q64 x 3) m) (clAdd m x c) := by rw [clGo, if_pos h]
theorem clGo_no {m k x : Int} {f : Nat} {c : List Int} (h : ¬ k ≤ picked x 3) : clGo m (f + 1) k x c = c := by rw [clGo, if_neg h]
theorem clAdd_okc {m : Nat} (hm : 0 < m) {x : Int} {c : List Int} (h : Okc m c) : Okc m (clAdd m x c) := by
  unfold clAdd
  split
  · exact h
  · rename_i hn
    have hr := picked_rng (q64 x 3) (n := (m : Int)) (by omega)
    have hno : (1 + picked (q64 x 3) m) ∉ c ∧ -(1 + picked (q64 x 3) m) ∉ c := by
      refine ⟨fun hc => hn ?_, fun hc => hn ?_⟩ <;> unfold had <;> rw [List.any_eq_true] <;> exact ⟨_, hc, by simp⟩
    unfold clLit
    split
    · exact okc_snoc h (by omega) hno.2 (by rw [Int.neg_neg]; exact hno.1)
    · exact okc_snoc h (by omega) hno.1 hno.2
theorem clGo_okc {m : Nat} (hm : 0 < m) : ∀ (f : Nat) (k x : Int) (c : List Int), Okc m c → Okc m (clGo m f k x c)
  | 0, _, _, _, h => h
  | f + 1, k, x, c, h => by
    rw [clGo]
    split
    · exact clGo_okc hm f _ _ _ (clAdd_okc hm h)
    · exact h
theorem clAdd_len (m x : Int) (c : List Int) : (clAdd m x c).length ≤ c.length + 1 := by
  unfold clAdd
  split
  · omega
  · rw [List.length_append]; exact Nat.le_refl _
theorem clGo_len (m : Int) : ∀ (f : Nat) (k x : Int) (c : List Int), (clGo m f k x c).length ≤ c.length + f
  | 0, _, _, _ => Nat.le_refl _
  | f + 1, k, x, c => by
    rw [clGo]
    split
    · have := clGo_len m f (k + 1) (q64 (q64 x 3) m) (clAdd m x c)
      have := clAdd_len m x c
      omega
    · omega
def swp (c : List Int) (j : Nat) : List Int := (c.set (j + 1) (c.getD j 0)).set j (c.getD (j + 1) 0)
def insJ : Nat → List Int → List Int
  | 0, c => c
  | j + 1, c => if av (c.getD (j + 1) 0) < av (c.getD j 0) then insJ j (swp c j) else c
def insTo (c : List Int) (i : Nat) : List Int := (List.range i).foldl (fun c i => insJ i c) c
theorem insTo_succ (c : List Int) (i : Nat) : insTo c (i + 1) = insJ i (insTo c i) := by unfold insTo; rw [List.range_succ, List.foldl_append]; rfl
theorem insJ_go {c : List Int} {j : Nat} (h : av (c.getD (j + 1) 0) < av (c.getD j 0)) : insJ (j + 1) c = insJ j (swp c j) := by rw [insJ, if_pos h]
theorem insJ_no {c : List Int} {j : Nat} (h : ¬ av (c.getD (j + 1) 0) < av (c.getD j 0)) : insJ (j + 1) c = c := by rw [insJ, if_neg h]
theorem swp_len (c : List Int) (j : Nat) : (swp c j).length = c.length := by simp [swp]
theorem insJ_len : ∀ (j : Nat) (c : List Int), (insJ j c).length = c.length
  | 0, _ => rfl
  | j + 1, c => by
    rw [insJ]
    split
    · rw [insJ_len j, swp_len]
    · rfl
theorem insTo_len (c : List Int) : ∀ i, (insTo c i).length = c.length
  | 0 => rfl
  | i + 1 => by rw [insTo_succ, insJ_len, insTo_len c i]
theorem swp_perm {c : List Int} {j : Nat} (h : j + 1 < c.length) : (swp c j).Perm c := by
  have e1 : c.getD j 0 = c[j] := by rw [List.getD_eq_getElem?_getD, List.getElem?_eq_getElem (by omega)]; rfl
  have e2 : c.getD (j + 1) 0 = c[j + 1] := by rw [List.getD_eq_getElem?_getD, List.getElem?_eq_getElem h]; rfl
  unfold swp
  rw [e1, e2]
  exact List.set_set_perm h (by omega)
theorem insJ_perm : ∀ (j : Nat) (c : List Int), j < c.length → (insJ j c).Perm c
  | 0, c, _ => List.Perm.refl c
  | j + 1, c, h => by
    rw [insJ]
    split
    · exact (insJ_perm j (swp c j) (by rw [swp_len]; omega)).trans (swp_perm h)
    · exact List.Perm.refl c
theorem insTo_perm (c : List Int) : ∀ i, i ≤ c.length → (insTo c i).Perm c
  | 0, _ => List.Perm.refl c
  | i + 1, h => by
    rw [insTo_succ]
    exact (insJ_perm i (insTo c i) (by rw [insTo_len]; omega)).trans (insTo_perm c i (by omega))
theorem okc_perm {n : Nat} {c d : List Int} (hp : d.Perm c) (h : Okc n c) : Okc n d :=
  ⟨fun x hx => h.1 x (hp.mem_iff.1 hx), hp.symm.pairwise h.2 (fun h => fun e => h e.symm)⟩
def clOf (m x : Int) : List Int := insTo (clGo m 4 0 x []) (clGo m 4 0 x []).length
theorem clOf_okc {m : Nat} (hm : 0 < m) (x : Int) : Okc m (clOf m x) := okc_perm (insTo_perm _ _ (Nat.le_refl _)) (clGo_okc hm 4 0 x [] (okc_nil m))
theorem clOf_len (m x : Int) : (clOf m x).length ≤ 4 := by
  unfold clOf
  rw [insTo_len]
  have := clGo_len m 4 0 x []
  simpa using this
def cnfOf (l : List Int) (m : Int) (n : Nat) : List (List Int) := (l.take n).map (clOf m)
theorem cnfOf_check {l : List Int} {m n : Nat} (hm : 0 < m ∧ m ≤ 120) (hn : n ≤ 400) : (check m (cnfOf l m n)).1 = 0 := by
  rw [check_of (by omega) (by unfold cnfOf; rw [List.length_map, List.length_take]; omega) (fun c hc => ?_)]
  obtain ⟨x, _, rfl⟩ := List.mem_map.1 hc
  have := clOf_len m x
  exact ⟨by omega, wrong_iff.2 (clOf_okc hm.1 x)⟩
def bitsR (n : Nat) (s : Int) : List Bool := (List.range n).map fun i => decide (s / 2 ^ i % 2 = 1)
def modTo (n : Nat) (ls : List (List Int)) (i : Nat) : Nat := ((List.range i).filter fun (s : Nat) => all (bitsR n s) ls).length
def models (n : Nat) (ls : List (List Int)) : Nat := modTo n ls (2 ^ n)
end Sp
end Go.Um

/- Plain law: a variable that goes takes no answer along. No program in sight. No condition. -/


namespace Go.Um
namespace Sp
def elW (l : List (List Int)) (v : Int) : List (List Int) := l.filter fun c => decide (v ∈ c)
def elN (l : List (List Int)) (v : Int) : List (List Int) := l.filter fun c => !decide (v ∈ c) && decide (-v ∈ c)
def elR (l : List (List Int)) (v : Int) : List (List Int) := l.filter fun c => !decide (v ∈ c) && !decide (-v ∈ c)
def elQ (m : List (List Int)) (v : Int) (a : List Int) : List (List Int) := m.filterMap fun b => resolve a b v
def elP (w m : List (List Int)) (v : Int) : List (List Int) := w.flatMap (elQ m v)
def elim1 (l : List (List Int)) (v : Int) : List (List Int) := nrm (elR l v ++ elP (elW l v) (elN l v) v)
def mend1 (l : List (List Int)) (v : Int) (x : List Bool) : List Bool := x.set (v - 1).toNat (!all (x.set (v - 1).toNat false) l)
def stg (ls : List (List Int)) (vs : List Int) (i : Nat) : List (List Int) := (vs.take i).foldl elim1 (nrm ls)
def mendF (ls : List (List Int)) (vs : List Int) : Nat → List Bool → List Bool
  | 0, x => x
  | i + 1, x => mendF ls vs i (mend1 (stg ls vs i) (vs.getD i 0) x)
def Can (n : Nat) (ls : List (List Int)) : Prop := ∃ a : List Bool, a.length = n ∧ all a ls = true
def bigB (l : List (List Int)) : Bool := decide ((400 : Int) < l.length) || l.any fun x => decide ((24 : Int) < x.length)
def stgF (ls : List (List Int)) (vs : List Int) : Nat → Nat → Int × Int
  | 0, _ => (0, 0)
  | f + 1, i => if bigB (stg ls vs (i + 1)) = true then (10, (i : Int)) else stgF ls vs f (i + 1)
def elimO (n : Int) (ls : List (List Int)) (vs : List Int) : Int × List (List Int) × Int × Int :=
  if (stgF ls vs vs.length 0).1 ≠ 0 then (0, [], stgF ls vs vs.length 0) else (n, stg ls vs vs.length, 0, 0)
def elVs (l : List Int) (i : Nat) : List Int := (l.take i).foldl (fun r a => if decide ((1 + picked a 6) ∈ r) = true then r else r ++ [1 + picked a 6]) []
end Sp
end Go.Um
