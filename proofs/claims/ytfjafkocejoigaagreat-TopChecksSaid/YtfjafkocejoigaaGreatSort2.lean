/- The library's sort by a function that captures nothing; order of literals. No condition. -/
import Derived.Test.YtfjafkocejoigaaGreatSort
import Derived.Test.YtfjafkocejoigaaGreatPA
namespace Go.Um
open Go Go.RowKit

theorem clo_cmp {P : Program} {ok : Nat → Prop} {w : World} {s : St} {β : Nat → Option Nat} {ν : Nat → Value} {v : Value} {F : FuncId} {α : Type} {f : α → D} {V : α → Prop} {cf : α → α → Int} (hF : IsFn P F)
    (hS : ∀ x y, V x → V y → Spec P F [.val (f x), .val (f y)] (.int .i64 (cf x y))) (hv : VR P ok w s β ν (.clo F .cnil) [v]) : VR P ok w s β ν (.val (cmpD V f cf)) [v] := by
  obtain ⟨caps, e, h⟩ := hv
  simp only [List.cons.injEq, and_true] at e
  subst e
  have hcap : caps.toList = [] := h
  have hcap : caps = #[] := by cases caps; simpa using hcap
  subst hcap
  refine ⟨_, rfl, rfl, F, #[], rfl, hF, fun x w' ok' args _ _ hok hr => ?_⟩
  obtain ⟨v1, vs1, rfl, a1, r1, v2, vs2, rfl, a2, r2, rfl⟩ := hr
  have h := hS x.1.1 x.1.2 x.2.1 x.2.2 w' ok' [v1, v2] hok ⟨v1, _, rfl, ⟨v1, rfl, a1, r1⟩, v2, _, rfl, ⟨v2, rfl, a2, r2⟩, rfl⟩
  have e : [v1, v2].toArray ++ #[] = [v1, v2].toArray := by simp
  rw [e]
  refine h.mono ?_
  rintro e w'' ⟨v, rfl, ⟨h1, h2⟩, h3⟩
  exact ⟨v, rfl, h1, h2, h3⟩

theorem sortFc_spec {P : Program} {ρ : Go.Shelf.Ren} (L : Go.Proofs.SlLaysF.n6 P ρ) {α : Type} (f : α → D) (z : α) (V : α → Prop) (cf : α → α → Int) (hone : ∀ x, (f x).isAgg = false) (hO : Sort.SWO (Go.Proofs.ltOf cf)) (hT : ∀ x y, Go.Proofs.ltOf cf x y = false → Go.Proofs.ltOf cf y x = false → x = y)
    {F : FuncId} (hF : IsFn P F) (hS : ∀ x y, V x → V y → Spec P F [.val (f x), .val (f y)] (.int .i64 (cf x y))) (u e by_ : Nat) (xs ys : List α) (hy : ys = xs.mergeSort fun x y => !Go.Proofs.ltOf cf y x) (hV : ∀ x ∈ xs, V x) :
    SpecB P (ρ.f 6) [.row 30000 u, .clo F .cnil] [(30000, .arr u e 1 by_ f z xs)] (.tup .nil) [(30000, .arr u e 1 by_ f z ys)] := by
  subst hy
  intro X a β ν vs hr hargs
  obtain ⟨v, vs', rfl, hv, v2, vs2, rfl, hv2, rfl⟩ := hargs
  exact sortF_spec L f z V cf hone hO hT u e by_ xs hV X a β ν [v, v2] hr ⟨v, _, rfl, hv, v2, _, rfl, clo_cmp hF hS hv2, rfl⟩
theorem swo_of {α : Type} {lt : α → α → Bool} (r : α → α → Prop) (h : ∀ x y, lt x y = true ↔ r x y) (hi : ∀ x, ¬ r x x) (ht : ∀ x y z, r x y → r y z → r x z) (hn : ∀ x y z, ¬ r x y → ¬ r y z → ¬ r x z) : Sort.SWO lt where
  irrefl x := by rw [Bool.eq_false_iff, ne_eq, h]; exact hi x
  trans x y z h1 h2 := by rw [h] at h1 h2 ⊢; exact ht x y z h1 h2
  ntrans x y z h1 h2 := by rw [Bool.eq_false_iff, ne_eq, h] at h1 h2 ⊢; exact hn x y z h1 h2

theorem ord_lt {x y : Int} : Go.Proofs.ltOf Sp.ord x y = true ↔ (Sp.av x < Sp.av y ∨ (Sp.av x = Sp.av y ∧ y < x)) := Sp.ltO_iff
theorem ord_swo : Sort.SWO (Go.Proofs.ltOf Sp.ord) := swo_of _ (fun _ _ => ord_lt) (fun x => by omega) (fun x y z => by omega) (fun x y z => by omega)
theorem ord_tot (x y : Int) (h1 : Go.Proofs.ltOf Sp.ord x y = false) (h2 : Go.Proofs.ltOf Sp.ord y x = false) : x = y := by
  rw [Bool.eq_false_iff, ne_eq, ord_lt] at h1 h2
  omega

end Go.Um
