/- Variables in memory: boxes that a call makes, loads and stores there; structs built. No condition. -/
import Derived.Test.YtpjenbbalengoaaMem
namespace Go.Um
open Go Go.RowKit

def newVer : AV → Nat
  | .dead u => u + 1
  | .box u _ => u + 1
  | .arr u .. => u + 1
  | .mp u .. => u + 1
  | .tl u .. => u + 1
  | _ => 0

theorem newVer_gt {x : AV} {k : Nat} (h : ver x = some k) : k < newVer x := by cases x <;> simp_all [ver, newVer]

/-- Some objects have died. -/
def Kill (t t1 : St) : Prop := ∀ o, t1 o = t o ∨ ∃ u, ver (t o) = some u ∧ t1 o = .dead u

theorem Kill.refl (t : St) : Kill t t := fun _ => .inl rfl
theorem Kill.one {t : St} {o u : Nat} (h : ver (t o) = some u) : Kill t (upd t o (.dead u)) := by
  intro k
  by_cases e : k = o
  · subst e; right; exact ⟨u, h, upd_same ..⟩
  · left; exact upd_ne t _ e

def updF {α : Type} (f : Nat → α) (k : Nat) (x : α) : Nat → α := fun t => if t = k then x else f t
theorem updF_same {α : Type} (f : Nat → α) (k : Nat) (x : α) : updF f k x k = x := by simp [updF]
theorem updF_ne {α : Type} (f : Nat → α) {k t : Nat} (x : α) (h : t ≠ k) : updF f k x t = f t := by simp [updF, h]

/-- A new object, in a new block or in the block of one that has died; a slot beside it. -/
theorem RelB.newObj {P : Program} {X : Cx} {t t1 : St} {a : Act} {w w' : World} {β : Nat → Option Nat} {ν : Nat → Value} (hr : RelB P X t a w β ν) (hkill : Kill t t1) {ob d : Nat} {y x : AV} {v nv : Value} {bt : Option Nat}
    (h4 : 10000 ≤ ob) (hdn : d < X.n) (hd4 : d < 10000) (hos : w'.os = w.os) (htape : w'.tape = w.tape) (hout : w'.output = w.output ∧ w.drawn ≤ w'.drawn) (hsize : w.heap.size ≤ w'.heap.size)
    (hblk : ∀ b, b < w.heap.size → w'.heap[b]? = w.heap[b]? ∨ ∃ o, live (t o) = true ∧ live (t1 o) = false ∧ β o = some b)
    (hbt : ∀ b, bt = some b → (w.heap.size ≤ b ∧ b < w'.heap.size) ∨ ∃ o, live (t o) = true ∧ live (t1 o) = false ∧ β o = some b)
    (hver : ver y = some (newVer (t1 ob))) (hx : ver x = none)
    (hor : (∀ b, okAt X t β w b → okAt X (upd (upd t1 ob y) d x) (updF β ob bt) w' b ∧ w'.heap[b]? = w.heap[b]?) → Goes t (upd (upd t1 ob y) d x) β (updF β ob bt) ν (updF ν ob nv) →
      OR P (okAt X (upd (upd t1 ob y) d x) (updF β ob bt) w') w' (upd (upd t1 ob y) d x) (updF β ob bt) (updF ν ob nv) ob y ∧
      VR P (okAt X (upd (upd t1 ob y) d x) (updF β ob bt) w') w' (upd (upd t1 ob y) d x) (updF β ob bt) (updF ν ob nv) x [v]) :
    RelB P X (upd (upd t1 ob y) d x) (a.put (some d) v) w' (updF β ob bt) (updF ν ob nv) := by
  have hne : d ≠ ob := by omega
  have hs : ∀ o, o ≠ ob → o ≠ d → upd (upd t1 ob y) d x o = t1 o := fun o h1 h2 => by rw [upd_ne _ _ h2, upd_ne _ _ h1]
  have hsob : upd (upd t1 ob y) d x ob = y := by rw [upd_ne _ _ (Ne.symm hne), upd_same]
  have hsd : upd (upd t1 ob y) d x d = x := upd_same ..
  have hlk : ∀ o, live (t1 o) = true → t1 o = t o := fun o hl => by
    rcases hkill o with h | ⟨u, _, h⟩
    · exact h
    · rw [h] at hl; cases hl
  have hlive' : ∀ o, o ≠ ob → live (upd (upd t1 ob y) d x o) = true → t1 o = t o ∧ upd (upd t1 ob y) d x o = t o ∧ o ≠ d := by
    intro o ho hl
    have hod : o ≠ d := by rintro rfl; rw [hsd, live_ver hx] at hl; cases hl
    rw [hs o ho hod] at hl
    exact ⟨hlk o hl, by rw [hs o ho hod, hlk o hl], hod⟩
  have hgoes : Goes t (upd (upd t1 ob y) d x) β (updF β ob bt) ν (updF ν ob nv) := by
    intro o k hk
    by_cases e : o = ob
    · subst e
      refine ⟨newVer (t1 o), by rw [hsob]; exact hver, ?_, ?_⟩
      · rcases hkill o with h | ⟨u, h1, h2⟩
        · rw [h]; exact Nat.le_of_lt (newVer_gt hk)
        · rw [h2]; rw [hk] at h1; cases h1; exact Nat.le_succ _
      · intro e'
        exfalso
        rcases hkill o with h | ⟨u, h1, h2⟩
        · rw [h] at e'; have := newVer_gt hk; omega
        · rw [h2] at e'; rw [hk] at h1; cases h1; simp [newVer] at e'
    · have hod : o ≠ d := by rintro rfl; rw [hr.keys o hd4] at hk; cases hk
      refine ⟨k, ?_, Nat.le_refl _, fun _ hl => ?_⟩
      · rw [hs o e hod]
        rcases hkill o with h | ⟨u, h1, h2⟩
        · rw [h]; exact hk
        · rw [h2]; rw [hk] at h1; cases h1; rfl
      · obtain ⟨h1, h2, h3⟩ := hlive' o e hl
        exact ⟨by rw [← h2]; exact hl, updF_ne _ _ e, updF_ne _ _ e⟩
  have hok : ∀ b, okAt X t β w b → okAt X (upd (upd t1 ob y) d x) (updF β ob bt) w' b ∧ w'.heap[b]? = w.heap[b]? := by
    intro b hb
    refine ⟨⟨hb.1, Nat.lt_of_lt_of_le hb.2.1 hsize, fun o hl => ?_⟩, ?_⟩
    · by_cases e : o = ob
      · subst e
        rw [updF_same]
        intro hbe
        rcases hbt b hbe with h | ⟨o', h1, _, h3⟩
        · have := hb.2.1; omega
        · exact hb.2.2 o' h1 h3
      · rw [updF_ne _ _ e]
        obtain ⟨_, h2, _⟩ := hlive' o e hl
        exact hb.2.2 o (by rw [← h2]; exact hl)
    · rcases hblk b hb.2.1 with h | ⟨o, h1, _, h3⟩
      · exact h
      · exact absurd h3 (hb.2.2 o h1)
  obtain ⟨hor1, hor2⟩ := hor hok hgoes
  refine hr.move hos htape hout hsize ?_ hok hgoes ?_ ?_ ?_ ?_ ?_ (put_size ..) ?_ (fun hv => .inl (by
    have h1 : (29999 : Nat) ≠ ob := by intro e; rw [e, hsob, hver] at hv; cases hv
    rw [hs _ h1 (by omega)] at hv ⊢
    rcases hkill 29999 with h | ⟨u, _, h⟩
    · exact h
    · rw [h] at hv; cases hv))
  · intro b hb hn
    rcases hblk b (Nat.lt_of_lt_of_le hb hr.size) with h | ⟨o, h1, _, h3⟩
    · exact h
    · rcases (hr.own o b h1 h3).1 with h | h
      · omega
      · exact absurd h hn
  · intro o b hl hb
    by_cases e : o = ob
    · subst e
      rw [updF_same] at hb
      right
      rcases hbt b hb with h | ⟨o', h1, _, h3⟩
      · exact ⟨.inl (Nat.le_trans hr.size h.1), h.2⟩
      · exact ⟨(hr.own o' b h1 h3).1, Nat.lt_of_lt_of_le (hr.own o' b h1 h3).2 hsize⟩
    · rw [updF_ne _ _ e] at hb
      obtain ⟨_, h2, _⟩ := hlive' o e hl
      exact .inl ⟨by rw [← h2]; exact hl, hb⟩
  · intro o o' b hl hl' hb hb'
    by_cases e : o = ob
    · by_cases e' : o' = ob
      · rw [e, e']
      · subst e
        rw [updF_same] at hb
        rw [updF_ne _ _ e'] at hb'
        obtain ⟨h1, h2, _⟩ := hlive' o' e' hl'
        have hl2 : live (t o') = true := by rw [← h2]; exact hl'
        rcases hbt b hb with h | ⟨o2, g1, g2, g3⟩
        · have := (hr.own o' b hl2 hb').2; omega
        · have := hr.inj o2 o' b g1 hl2 g3 hb'
          subst this
          rw [h1, hl2] at g2
          cases g2
    · rw [updF_ne _ _ e] at hb
      obtain ⟨h1, h2, _⟩ := hlive' o e hl
      have hl1 : live (t o) = true := by rw [← h2]; exact hl
      by_cases e' : o' = ob
      · subst e'
        rw [updF_same] at hb'
        rcases hbt b hb' with h | ⟨o2, g1, g2, g3⟩
        · have := (hr.own o b hl1 hb).2; omega
        · have := hr.inj o2 o b g1 hl1 g3 hb
          subst this
          rw [h1, hl1] at g2
          cases g2
      · rw [updF_ne _ _ e'] at hb'
        obtain ⟨_, h2', _⟩ := hlive' o' e' hl'
        exact hr.inj o o' b hl1 (by rw [← h2']; exact hl') hb hb'
  · intro o hl
    by_cases e : o = ob
    · subst e; right; rw [hsob]; exact hor1
    · left
      obtain ⟨h1, h2, _⟩ := hlive' o e hl
      refine ⟨h2, updF_ne _ _ e, updF_ne _ _ e, fun b hb => ?_⟩
      have hl2 : live (t o) = true := by rw [← h2]; exact hl
      rcases hblk b (hr.own o b hl2 hb).2 with h | ⟨o2, g1, g2, g3⟩
      · exact h
      · have := hr.inj o2 o b g1 hl2 g3 hb
        subst this
        rw [h1, hl2] at g2
        cases g2
  · intro k hk
    by_cases e : k = d
    · subst e; right; rw [hsd, put_get_same v (by rw [hr.tmps]; exact hdn)]; exact hor2
    · have hko : k ≠ ob := by omega
      left
      refine ⟨?_, put_get_ne a v e⟩
      rw [hs k hko e]
      rcases hkill k with h | ⟨u, h1, _⟩
      · exact h
      · rw [hr.keys k hk] at h1; cases h1
  · intro k hk
    by_cases e : k = d
    · subst e; rw [hsd]; exact hx
    · have hko : k ≠ ob := by omega
      rw [hs k hko e]
      rcases hkill k with h | ⟨u, h1, _⟩
      · rw [h]; exact hr.keys k hk
      · rw [hr.keys k hk] at h1; cases h1
  · rw [put_defers]

theorem ovr_two {t s : St} {d ob : Nat} {x y : AV} (h : d ≠ ob) : ovr t [d, ob] (upd (upd s ob y) d x) = upd (upd t ob y) d x := by
  funext k
  by_cases e : k = d
  · subst e; simp [ovr, upd_same]
  · by_cases e' : k = ob
    · subst e'; simp [ovr, upd_ne _ _ e, upd_same]
    · simp [ovr, e, e', upd_ne _ _ e, upd_ne _ _ e']

theorem off_two {s : St} {d ob : Nat} {x y : AV} (k : Nat) (h : k ∉ [d, ob]) : upd (upd s ob y) d x k = s k := by
  simp only [List.mem_cons, List.not_mem_nil, or_false, not_or] at h
  rw [upd_ne _ _ h.1, upd_ne _ _ h.2]

/-- The cells of data, as a chain of abstract values. -/
def D.toAV : D → AV
  | .cons a b => .ccons (.val a) b.toAV
  | _ => .cnil
/-- Chains of single cells. -/
def D.flat1 : D → Bool
  | .nil => true
  | .cons a b => a.one && b.flat1
  | _ => false

theorem R_toAV {P : Program} {ok : Nat → Prop} {w : World} {s : St} {β : Nat → Option Nat} {ν : Nat → Value} : ∀ (c : D) {cs : List Value}, c.flat1 = true → R P c ok w cs →
    VR P ok w s β ν c.toAV cs ∧ (∀ v ∈ cs, v.oneCell' = true) ∧ cs.length = c.len
  | .nil, cs, _, h => by simp only [R] at h; subst h; simp [D.toAV, VR, D.len]
  | .cons a b, cs, hf, h => by
    simp only [D.flat1, Bool.and_eq_true] at hf
    obtain ⟨v, vs, rfl, h1, h2, h3⟩ := h
    obtain ⟨g1, g2, g3⟩ := R_toAV (s := s) (β := β) (ν := ν) b hf.2 h3
    refine ⟨⟨v, vs, rfl, ⟨v, rfl, h1, h2⟩, g1⟩, ?_, by simp [D.len, g3]⟩
    intro u hu
    rcases List.mem_cons.1 hu with rfl | hu
    · exact (RV_one hf.1 ⟨h1, h2⟩).2
    · exact g2 u hu
  | .int .., _, hf, _ => by cases hf
  | .bool .., _, hf, _ => by cases hf
  | .str .., _, hf, _ => by cases hf
  | .agg .., _, hf, _ => by cases hf
  | .tup .., _, hf, _ => by cases hf
  | .list .., _, hf, _ => by cases hf
  | .fn .., _, hf, _ => by cases hf

/-- Data out of a chain of abstract values. -/
def AV.toD : AV → D
  | .ccons (.val a) b => .cons a b.toD
  | _ => .nil
def AV.isD : AV → Bool
  | .cnil => true
  | .ccons (.val a) b => a.one && b.isD
  | _ => false
def AV.len : AV → Nat
  | .ccons _ b => b.len + 1
  | _ => 0
def AV.nth : AV → Nat → AV
  | .ccons a _, 0 => a
  | .ccons _ b, i + 1 => b.nth i
  | _, _ => .any
def AV.set : AV → Nat → AV → AV
  | .ccons _ b, 0, x => .ccons x b
  | .ccons a b, i + 1, x => .ccons a (b.set i x)
  | c, _, _ => c
def AV.chain : AV → Bool
  | .cnil => true
  | .ccons _ b => b.chain
  | _ => false

section
variable {P : Program} {ok : Nat → Prop} {w : World} {s : St} {β : Nat → Option Nat} {ν : Nat → Value}

theorem VR_toD : ∀ (c : AV) {cs : List Value}, c.isD = true → VR P ok w s β ν c cs → R P c.toD ok w cs ∧ c.toD.flat1 = true ∧ cs.length = c.len
  | .cnil, cs, _, h => by simp only [VR] at h; subst h; simp [AV.toD, R, D.flat1, AV.len]
  | .ccons x b, cs, hf, h => by
    cases x with
    | val a =>
      simp only [AV.isD, Bool.and_eq_true] at hf
      obtain ⟨v, vs, rfl, ⟨u, e, h1⟩, h2⟩ := h
      simp only [List.cons.injEq, and_true] at e
      subst e
      obtain ⟨g1, g2, g3⟩ := VR_toD b hf.2 h2
      exact ⟨⟨v, vs, rfl, h1.1, h1.2, g1⟩, by simp [AV.toD, D.flat1, hf.1, g2], by simp [AV.len, g3]⟩
    | _ => cases hf
  | .any, _, hf, _ => by cases hf
  | .val .., _, hf, _ => by cases hf
  | .emp, _, hf, _ => by cases hf
  | .ptr .., _, hf, _ => by cases hf
  | .ref .., _, hf, _ => by cases hf
  | .elt .., _, hf, _ => by cases hf
  | .sub .., _, hf, _ => by cases hf
  | .etl .., _, hf, _ => by cases hf
  | .bsl .., _, hf, _ => by cases hf
  | .row .., _, hf, _ => by cases hf
  | .clo .., _, hf, _ => by cases hf
  | .sv .., _, hf, _ => by cases hf
  | .gv .., _, hf, _ => by cases hf
  | .dead .., _, hf, _ => by cases hf
  | .box .., _, hf, _ => by cases hf
  | .arr .., _, hf, _ => by cases hf
  | .mp .., _, hf, _ => by cases hf
  | .tl .., _, hf, _ => by cases hf

theorem VR_nth : ∀ (c : AV) {cs : List Value} (i : Nat), VR P ok w s β ν c cs → i < c.len → ∃ v, cs[i]? = some v ∧ VR P ok w s β ν (c.nth i) [v]
  | .ccons a b, cs, i, h, hi => by
    obtain ⟨v, vs, rfl, h1, h2⟩ := h
    cases i with
    | zero => exact ⟨v, rfl, h1⟩
    | succ i => exact VR_nth b i h2 (by simpa [AV.len] using hi)
  | .cnil, _, _, _, hi => by simp [AV.len] at hi
  | .any, _, _, _, hi => by simp [AV.len] at hi
  | .val .., _, _, _, hi => by simp [AV.len] at hi
  | .emp, _, _, _, hi => by simp [AV.len] at hi
  | .ptr .., _, _, _, hi => by simp [AV.len] at hi
  | .ref .., _, _, _, hi => by simp [AV.len] at hi
  | .elt .., _, _, _, hi => by simp [AV.len] at hi
  | .sub .., _, _, _, hi => by simp [AV.len] at hi
  | .etl .., _, _, _, hi => by simp [AV.len] at hi
  | .bsl .., _, _, _, hi => by simp [AV.len] at hi
  | .row .., _, _, _, hi => by simp [AV.len] at hi
  | .clo .., _, _, _, hi => by simp [AV.len] at hi
  | .sv .., _, _, _, hi => by simp [AV.len] at hi
  | .gv .., _, _, _, hi => by simp [AV.len] at hi
  | .dead .., _, _, _, hi => by simp [AV.len] at hi
  | .box .., _, _, _, hi => by simp [AV.len] at hi
  | .arr .., _, _, _, hi => by simp [AV.len] at hi
  | .mp .., _, _, _, hi => by simp [AV.len] at hi
  | .tl .., _, _, _, hi => by simp [AV.len] at hi

theorem VR_set : ∀ (c : AV) {cs : List Value} (i : Nat) (x : AV) (v : Value), VR P ok w s β ν c cs → i < c.len → VR P ok w s β ν x [v] → VR P ok w s β ν (c.set i x) (cs.set i v)
  | .ccons a b, cs, i, x, v, h, hi, hx => by
    obtain ⟨u, vs, rfl, h1, h2⟩ := h
    cases i with
    | zero => exact ⟨v, vs, rfl, hx, h2⟩
    | succ i => exact ⟨u, vs.set i v, rfl, h1, VR_set b i x v h2 (by simpa [AV.len] using hi) hx⟩
  | .cnil, _, _, _, _, _, hi, _ => by simp [AV.len] at hi
  | .any, _, _, _, _, _, hi, _ => by simp [AV.len] at hi
  | .val .., _, _, _, _, _, hi, _ => by simp [AV.len] at hi
  | .emp, _, _, _, _, _, hi, _ => by simp [AV.len] at hi
  | .ptr .., _, _, _, _, _, hi, _ => by simp [AV.len] at hi
  | .ref .., _, _, _, _, _, hi, _ => by simp [AV.len] at hi
  | .elt .., _, _, _, _, _, hi, _ => by simp [AV.len] at hi
  | .sub .., _, _, _, _, _, hi, _ => by simp [AV.len] at hi
  | .etl .., _, _, _, _, _, hi, _ => by simp [AV.len] at hi
  | .bsl .., _, _, _, _, _, hi, _ => by simp [AV.len] at hi
  | .row .., _, _, _, _, _, hi, _ => by simp [AV.len] at hi
  | .clo .., _, _, _, _, _, hi, _ => by simp [AV.len] at hi
  | .sv .., _, _, _, _, _, hi, _ => by simp [AV.len] at hi
  | .gv .., _, _, _, _, _, hi, _ => by simp [AV.len] at hi
  | .dead .., _, _, _, _, _, hi, _ => by simp [AV.len] at hi
  | .box .., _, _, _, _, _, hi, _ => by simp [AV.len] at hi
  | .arr .., _, _, _, _, _, hi, _ => by simp [AV.len] at hi
  | .mp .., _, _, _, _, _, hi, _ => by simp [AV.len] at hi
  | .tl .., _, _, _, _, _, hi, _ => by simp [AV.len] at hi
end

end Go.Um
