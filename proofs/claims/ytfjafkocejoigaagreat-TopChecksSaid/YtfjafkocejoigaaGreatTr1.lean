/- Plain law: steps that are taken, as resolutions. No program in sight. No condition. -/
import Derived.Test.YtfjafkocejoigaaGreatPD
import Derived.Test.YtfjafkocejoigaaGreatSq8
namespace Go.Um
namespace Sp
structure Rd (kn : List (List Int)) (c L W : List Int) : Prop where
  len : L.length = W.length
  pre : L.take c.length = c.map fun x => -x
  lo : c.length ≤ L.length
  dec : ∀ i, i < c.length → W.getD i 0 < 0
  rng : ∀ i, c.length ≤ i → i < L.length → 0 ≤ W.getD i 0 ∧ (W.getD i 0).toNat < kn.length
  mem : ∀ i, c.length ≤ i → i < L.length → L.getD i 0 ∈ kn.getD (W.getD i 0).toNat []
  oth : ∀ i, c.length ≤ i → i < L.length → ∀ y ∈ kn.getD (W.getD i 0).toNat [], y ≠ L.getD i 0 → -y ∈ L.take i
  con : ∀ x ∈ L, -x ∉ L
abbrev Tq := List Int × Int × Int × List Rs
def tbS (kn : List (List Int)) (nu L W : List Int) (k : Nat) (q : Tq) : Tq :=
  if W.getD k 0 < 0 ∨ -L.getD k 0 ∉ q.1 then q else
    ((resolve (kn.getD (W.getD k 0).toNat []) q.1 (av (L.getD k 0))).getD [], q.2.2.1, q.2.2.1 + 1,
      q.2.2.2 ++ [if L.getD k 0 < 0 then (q.2.1, nu.getD (W.getD k 0).toNat 0, av (L.getD k 0)) else (nu.getD (W.getD k 0).toNat 0, q.2.1, av (L.getD k 0))])
def tbk (kn : List (List Int)) (nu L W : List Int) : Nat → Tq → Tq
  | 0, q => q
  | k + 1, q => tbk kn nu L W k (tbS kn nu L W k q)
structure Db (n : Nat) (g : List (List Int)) (out : List Rs) (nx : Int) : Prop where
  ok : ∀ i, i < out.length → (resOne (resTo n g out i) (out.getD i (0, 0, 0)) n).2 = 0
  nx : nx = ((g.length + out.length : Nat) : Int)
def dbA (n : Nat) (g : List (List Int)) (out : List Rs) : List (List Int) := resTo n g out out.length
def At (n : Nat) (g : List (List Int)) (out : List Rs) (c : List Int) (i : Int) : Prop :=
  (0 ≤ i ∧ i < ((g.length + out.length : Nat) : Int)) ∧ ∀ x, x ∈ c ↔ x ∈ (dbA n g out).getD i.toNat []
theorem okc_nodup {n : Nat} {c : List Int} (h : Okc n c) : Cl c := by
  refine ⟨?_, fun x hx => ⟨(h.1 x hx).1, fun h2 => ?_⟩⟩
  · rw [List.nodup_iff_pairwise_ne]
    exact h.2.imp fun h1 e => h1 (by rw [e])
  · have := okc_eq h hx h2 (by unfold av; omega)
    have := (h.1 x hx).1
    omega
structure Tb (n : Nat) (g kn : List (List Int)) (nu L : List Int) (k : Nat) (q : Tq) : Prop where
  db : Db n g q.2.2.2 q.2.2.1
  nu : ∀ i, i < kn.length → At n g q.2.2.2 (kn.getD i []) (nu.getD i 0)
  at_ : At n g q.2.2.2 q.1 q.2.1
  okc : Okc n q.1
  neg : ∀ x ∈ q.1, -x ∈ L.take k
structure Trs where
  kn : List (List Int)
  nu : List Int
  nx : Int
  out : List Rs
def trOn (kn : List (List Int)) (c : List Int) : List Int × List Int × Int := on kn (c.map fun x => -x) (List.replicate (c.map fun x => -x).length (-1))
def Trs.q (s : Trs) (c : List Int) : Tq := tbk s.kn s.nu (trOn s.kn c).1 (trOn s.kn c).2.1 (trOn s.kn c).1.length (litSort (s.kn.getD (trOn s.kn c).2.2.toNat []), s.nu.getD (trOn s.kn c).2.2.toNat 0, s.nx, s.out)
def Trs.step (s : Trs) (c : List Int) : Trs := ⟨s.kn ++ [(s.q c).1], s.nu ++ [(s.q c).2.1], (s.q c).2.2.1, (s.q c).2.2.2⟩
def Trs.done (s : Trs) : Bool := s.kn.any fun l => decide (l = [])
def trGo : List (List Int) → Trs → List Rs × Int × Int
  | [], s => (s.out, 0, 0)
  | c :: r, s => if s.done = true then (s.out, 0, 0) else if 2000 < (s.step c).out.length then ([], 2, -1) else trGo r (s.step c)
def trZero (g : List (List Int)) : Trs := ⟨g, (List.range g.length).map fun i : Nat => (i : Int), g.length, []⟩
def trOf (g st : List (List Int)) : List Rs × Int × Int := trGo st (trZero g)
structure Ti (n : Nat) (g ls : List (List Int)) (s : Trs) : Prop where
  nl : s.nu.length = s.kn.length
  okc : ∀ c ∈ s.kn, Okc n c
  db : Db n g s.out s.nx
  nu : ∀ i, i < s.kn.length → At n g s.out (s.kn.getD i []) (s.nu.getD i 0)
  sub : ∀ c ∈ ls, ∃ d ∈ s.kn, ∀ x ∈ d, x ∈ c
  ol : s.out.length ≤ 2000
structure TrOk (n : Nat) (g : List (List Int)) (X : List Rs × Int × Int) : Prop where
  ll : X.1.length ≤ 2000
  ok : ∀ i, i < X.1.length → (resOne (resTo n g X.1 i) (X.1.getD i (0, 0, 0)) n).2 = 0
  fin : 0 < X.1.length → (resTo n g X.1 X.1.length).getD (g.length + X.1.length - 1) [] = []
  code : X.2 = (0, 0) ∨ X = ([], 2, -1)
  none_ : X.2 = (0, 0) → X.1.length = 0 → [] ∈ g
def Fin (n : Nat) (g : List (List Int)) (s : Trs) : Prop := s.done = true → (s.out.length = 0 → [] ∈ g) ∧ (0 < s.out.length → (dbA n g s.out).getD (g.length + s.out.length - 1) [] = [])
end Sp
end Go.Um
