/- Plain law: from the strongest to the weakest. No program in sight. No condition. -/
import Derived.Test.YtfjafkocejoigaaBt6
namespace Go.Um
namespace Sp

theorem comb4 (x y : Bool) : comb 4 x y = (x && !y) := by cases x <;> cases y <;> decide
theorem grow_none : ∀ (m : Nat) (v : Int), grow m [] (List.replicate (2 ^ m) false) v = ([], 0)
  | 0, v => rfl
  | m + 1, v => by
    have e : 2 ^ (m + 1) = 2 ^ m + 2 ^ m := by rw [Nat.pow_succ]; omega
    have hp : 0 < 2 ^ m := Nat.pow_pos (by decide)
    have h1 : (List.replicate (2 ^ (m + 1)) false).take (2 ^ m) = List.replicate (2 ^ m) false := by
      rw [List.take_replicate, e]; congr 1; generalize 2 ^ m = q at hp; omega
    have h2 : ((List.replicate (2 ^ (m + 1)) false).drop (2 ^ m)).take ((List.replicate (2 ^ (m + 1)) false).length - 2 ^ m) = List.replicate (2 ^ m) false := by
      rw [List.drop_replicate, List.take_replicate, List.length_replicate, e]; congr 1; generalize 2 ^ m = q at hp; omega
    have g1 : grow m [] ((List.replicate (2 ^ (m + 1)) false).take (2 ^ m)) (v + 1) = ([], 0) := by rw [h1]; exact grow_none m (v + 1)
    have g2 : grow m [] (((List.replicate (2 ^ (m + 1)) false).drop (2 ^ m)).take ((List.replicate (2 ^ (m + 1)) false).length - 2 ^ m)) (v + 1) = ([], 0) := by rw [h2]; exact grow_none m (v + 1)
    rw [grow_step g1 g2]
    rfl
theorem both_none {k : Nat} {l l' : List Cho} {r r' : Int} (h8 : k ≤ 8) (h1 : (diaCheck k l r).1 = 0) (h2 : (diaCheck k l' r').1 = 0) (h : ∀ i : Nat, i < 2 ^ k → dvalue l r (bits k i) = true → dvalue l' r' (bits k i) = true) : diaBoth k 4 l r l' r' = ([], 0, 0, 0) := by
  have e : dtab (fun a => comb 4 (dvalue l r a) (dvalue l' r' a)) k = List.replicate (2 ^ k) false := by
    rw [List.eq_replicate_iff]
    refine ⟨dtab_len _ _, fun y hy => ?_⟩
    obtain ⟨i, hi, rfl⟩ := List.mem_map.1 hy
    show comb 4 _ _ = false
    rw [comb4]
    cases e1 : dvalue l r (bits k i) with
    | false => rfl
    | true => rw [h i (List.mem_range.1 hi) e1]; rfl
  rw [diaBoth, if_neg (fun h => h h1), if_neg (fun h => h h2), if_neg (by omega), Int.toNat_natCast, built_few h8, e, grow_none]

section
variable {k : Nat} {a b : List (List Int)} {l : List Rs}
theorem prf_apart (hp : (prfW k a k b l).1 = 0) (h : Prf k a b l) : apW k a k b = (0, 0) := by
  have hb : (betW k a k b).1 = 0 := by
    refine Classical.byContradiction fun hb => ?_
    rw [prfW, if_pos hb] at hp
    exact hb hp
  have hno : ¬ 0 ≤ btV k (a ++ b) := by
    rw [btV_iff]
    rintro ⟨w, _, h1⟩
    rw [all_both, Bool.and_eq_true] at h1
    have h2 := stand_a h false h1.1
    rw [stand_b h false h1.2] at h2
    cases h2
  rw [apW_no (by rw [Int.toNat_natCast]; exact fun h => hno h.2), bet_zero hb]
structure SayOk (k : Nat) (X : DF) (p : Prd) : Prop where
  code : X.2.2 = (0, 0)
  ok : (diaCheck k X.1 X.2.1).1 = 0
  val : ∀ i : Nat, i < 2 ^ k → dvalue X.1 X.2.1 (bits k i) = p (bits k i)
theorem say_built {p : Prd} (h8 : k ≤ 8) : SayOk k (diaBuilt k (dtab p k)) p := by
  obtain ⟨g1, g2, _, _⟩ := grow_all (p := p) h8
  rw [built_few h8]
  exact ⟨rfl, g1, g2⟩
theorem say_str (hp : (prfW k a k b l).1 = 0) (h : Prf k a b l) (h8 : k ≤ 8) : SayOk k (strO k a k b) (someT b (fun x => all x a) k) := by
  rw [strO, prf_apart hp h, if_neg (by decide), Int.toNat_natCast]
  exact say_built h8
theorem say_wea (hp : (prfW k a k b l).1 = 0) (h : Prf k a b l) (h8 : k ≤ 8) : SayOk k (weaO k a k b) (fun x => !someT a (fun x => all x b) k x) := by
  rw [weaO, prf_apart hp h, if_neg (by decide), Int.toNat_natCast]
  exact say_built h8
theorem say_tak (hp : (prfW k a k b l).1 = 0) (h8 : k ≤ 8) (e : Bool) : SayOk k (takO e k a k b l) (lastP e a b l) := by
  rw [(tak_good hp).1, Int.toNat_natCast]
  exact say_built h8
theorem dep_some {p : Prd} {c : List (List Int)} {q : Prd} (hd : Dep a b p) (hc : c = a ∨ c = b) {x : List Bool} (hx : x.length = k) (h : someT c q k x = true) : ∃ y : List Bool, q y = true ∧ p y = p x := by
  obtain ⟨y, h1, h2, h3⟩ := (someT_iff k x).1 h
  refine ⟨y, h3, hd y x fun v hv ha hb => ?_⟩
  by_cases hj : (v - 1).toNat < x.length
  · refine h2 _ hj (.inr ?_)
    rw [show (((v - 1).toNat : Nat) : Int) + 1 = v by omega]
    rcases hc with rfl | rfl
    · exact ha
    · exact hb
  · have e1 : x.getD (v - 1).toNat false = false := by rw [List.getD_eq_getElem?_getD, List.getElem?_eq_none (by omega)]; rfl
    have e2 : y.getD (v - 1).toNat false = false := by rw [List.getD_eq_getElem?_getD, List.getElem?_eq_none (by omega)]; rfl
    rw [e1, e2]
theorem row_1 (h : Prf k a b l) {i : Nat} (hs : someT b (fun x => all x a) k (bits k i) = true) : lastP false a b l (bits k i) = true := by
  obtain ⟨y, h1, h2⟩ := dep_some (stand_dep h false) (.inr rfl) (bits_length k i) hs
  rw [← h2]
  exact stand_a h false h1
theorem row_3 (h : Prf k a b l) {i : Nat} (hs : lastP true a b l (bits k i) = true) : (!someT a (fun x => all x b) k (bits k i)) = true := by
  cases e : someT a (fun x => all x b) k (bits k i) with
  | false => rfl
  | true =>
    obtain ⟨y, h1, h2⟩ := dep_some (stand_dep h true) (.inl rfl) (bits_length k i) e
    rw [stand_b h true h1, hs] at h2
    cases h2
theorem row_both (hp : (prfW k a k b l).1 = 0) (h : Prf k a b l) (h8 : k ≤ 8) :
    diaBoth k 4 (strO k a k b).1 (strO k a k b).2.1 (takO false k a k b l).1 (takO false k a k b l).2.1 = ([], 0, 0, 0) ∧
    diaBoth k 4 (takO false k a k b l).1 (takO false k a k b l).2.1 (takO true k a k b l).1 (takO true k a k b l).2.1 = ([], 0, 0, 0) ∧
    diaBoth k 4 (takO true k a k b l).1 (takO true k a k b l).2.1 (weaO k a k b).1 (weaO k a k b).2.1 = ([], 0, 0, 0) ∧
    (strO k a k b).2.2 = (0, 0) ∧ (weaO k a k b).2.2 = (0, 0) := by
  have s1 := say_str hp h h8
  have s2 := say_tak hp h8 false
  have s3 := say_tak hp h8 true
  have s4 := say_wea hp h h8
  refine ⟨both_none h8 s1.ok s2.ok fun i hi hs => ?_, both_none h8 s2.ok s3.ok fun i hi hs => ?_, both_none h8 s3.ok s4.ok fun i hi hs => ?_, s1.code, s4.code⟩
  · rw [s1.val i hi] at hs
    rw [s2.val i hi]
    exact row_1 h hs
  · rw [s2.val i hi] at hs
    rw [s3.val i hi]
    exact stand_pq h hs
  · rw [s3.val i hi] at hs
    rw [s4.val i hi]
    exact row_3 h hs
end
end Sp
end Go.Um
