/-
  No cell of these rows narrows 'for every input' (looked for: loops, veiled, ifaces, maps, wideKeys, modest, calm, conditions, laid).
  DERIVED. THE GIVEN ROWS OF THIS SEAT. 4 by the template 'for every input the law returns true; each argument reads behind the call as it read before'; 0 by the template 'total and deterministic' (their statements: YtfjafkocejoigaaGreatTotals.lean).
  GIVEN WITH THE SEED: the statements are not yours to turn. If you find one false, say at which input.
  Laid BY PROGRAM, IN A SANDBOX (cutbox-rows.mjs): the forced cells as the released guide's own fill.sh prints them over the translation 08e6e5663f95882b… (all of the seat's roots in one cut). By AI agents, Wed Nov 11 2026. No macro, syntax, notation, axiom, sorry.
-/
import Derived.Test.YtfjafkocejoigaaGreatChecked
import GoSem.Claim
import GoSem.ClaimJoined
import GoSem.ClaimMapViews
import Derived.JoinedTies
import Derived.KernelRfl
namespace Go.Proofs.YtfjafkocejoigaaGreat
/- THE CELL 'sum', in the pinned program and in every row, IS THE sha256 OF THE DUMP (.gsa) THAT YtfjafkocejoigaaGreatProg.lean LOADS. Nothing in Lean hashes anything: it is a label: what it is worth is what the hold of that sum in a sandbox is worth. -/
noncomputable def Tryz.pinned : Pinned := { name := "ytfjafkocejoigaagreat", sum := "08e6e5663f95882b2ecd05b0a95a44138c5d673bf3445531fd1ee913fdd70694", checked := Tryz.checked }
namespace Rows
def none {H : Type} : Left H := { results := [], args := [] }

/-- 'umpiragetop.TopElim': WHATEVER THE INPUT: true; the input reads as it did. -/
def topElimSpec : ChangeSpec := { name := "topElim", fn := fun _ => fun
  | [d1, d2, d3] => { results := [.lit (.bool true)], args := [d1, d2, d3] }
  | _ => none }
def topElimRow : OpenClaim := { program := "ytfjafkocejoigaagreat", sum := "08e6e5663f95882b2ecd05b0a95a44138c5d673bf3445531fd1ee913fdd70694", func := "umpirage/umpiragetop.TopElim", spec := "topElim", unfollowed := true, recurses := true, plainKeys := false, apart := false }
def TopElimSaid : Prop := topElimRow.holds Tryz.pinned (OpenSpec.ofChange topElimSpec)

/-- ITS FALSE NEIGHBOUR: 'it returns false'. Refute it at one input. -/
def topElimWrong : ChangeSpec := { name := "topElim", fn := fun _ => fun
  | [d1, d2, d3] => { results := [.lit (.bool false)], args := [d1, d2, d3] }
  | _ => none }
def TopElimWrongFalsely : Prop := topElimRow.holds Tryz.pinned (OpenSpec.ofChange topElimWrong)

/-- 'umpiragetop.TopChecks': WHATEVER THE INPUT: true; the input reads as it did. -/
def topChecksSpec : ChangeSpec := { name := "topChecks", fn := fun _ => fun
  | [d1, d2] => { results := [.lit (.bool true)], args := [d1, d2] }
  | _ => none }
def topChecksRow : OpenClaim := { program := "ytfjafkocejoigaagreat", sum := "08e6e5663f95882b2ecd05b0a95a44138c5d673bf3445531fd1ee913fdd70694", func := "umpirage/umpiragetop.TopChecks", spec := "topChecks", unfollowed := true, recurses := true, plainKeys := false, apart := false }
def TopChecksSaid : Prop := topChecksRow.holds Tryz.pinned (OpenSpec.ofChange topChecksSpec)

/-- ITS FALSE NEIGHBOUR: 'it returns false'. Refute it at one input. -/
def topChecksWrong : ChangeSpec := { name := "topChecks", fn := fun _ => fun
  | [d1, d2] => { results := [.lit (.bool false)], args := [d1, d2] }
  | _ => none }
def TopChecksWrongFalsely : Prop := topChecksRow.holds Tryz.pinned (OpenSpec.ofChange topChecksWrong)

/-- 'umpiragetop.TopBetween': WHATEVER THE INPUT: true; the input reads as it did. -/
def topBetweenSpec : ChangeSpec := { name := "topBetween", fn := fun _ => fun
  | [d1, d2, d3] => { results := [.lit (.bool true)], args := [d1, d2, d3] }
  | _ => none }
def topBetweenRow : OpenClaim := { program := "ytfjafkocejoigaagreat", sum := "08e6e5663f95882b2ecd05b0a95a44138c5d673bf3445531fd1ee913fdd70694", func := "umpirage/umpiragetop.TopBetween", spec := "topBetween", unfollowed := true, recurses := true, plainKeys := false, apart := false }
def TopBetweenSaid : Prop := topBetweenRow.holds Tryz.pinned (OpenSpec.ofChange topBetweenSpec)

/-- ITS FALSE NEIGHBOUR: 'it returns false'. Refute it at one input. -/
def topBetweenWrong : ChangeSpec := { name := "topBetween", fn := fun _ => fun
  | [d1, d2, d3] => { results := [.lit (.bool false)], args := [d1, d2, d3] }
  | _ => none }
def TopBetweenWrongFalsely : Prop := topBetweenRow.holds Tryz.pinned (OpenSpec.ofChange topBetweenWrong)

/-- 'umpiragetop.TopSearch': WHATEVER THE INPUT: true; the input reads as it did. -/
def topSearchSpec : ChangeSpec := { name := "topSearch", fn := fun _ => fun
  | [d1, d2] => { results := [.lit (.bool true)], args := [d1, d2] }
  | _ => none }
def topSearchRow : OpenClaim := { program := "ytfjafkocejoigaagreat", sum := "08e6e5663f95882b2ecd05b0a95a44138c5d673bf3445531fd1ee913fdd70694", func := "umpirage/umpiragetop.TopSearch", spec := "topSearch", unfollowed := true, recurses := true, plainKeys := false, apart := false }
def TopSearchSaid : Prop := topSearchRow.holds Tryz.pinned (OpenSpec.ofChange topSearchSpec)

/-- ITS FALSE NEIGHBOUR: 'it returns false'. Refute it at one input. -/
def topSearchWrong : ChangeSpec := { name := "topSearch", fn := fun _ => fun
  | [d1, d2] => { results := [.lit (.bool false)], args := [d1, d2] }
  | _ => none }
def TopSearchWrongFalsely : Prop := topSearchRow.holds Tryz.pinned (OpenSpec.ofChange topSearchWrong)

/- THE SECOND FORM. 'bulk': how many values and letters a reading holds, each counted each time it is reached (what is shared counts as often as it is met; a slice's spare places count too). A statement '..UptoSaid' is the law's where the arguments, and the package variables that the reading takes, are together of bulk at most 1048576: NARROWER than '..Said'. Prove '..Said' where nothing that the law and all that it calls make is longer than what came in: it says more and counts as full. Else prove '..UptoSaid'. A law counts once. -/
mutual
def uptoBulk {H : Type} : DataW H → Nat
  | .lit (.string bytes) => bytes.length + 1
  | .lit _ => 1
  | .nil => 1
  | .ptr d => uptoBulk d + 1
  | .slice elems spare => uptoBulkAll elems + uptoBulkAll spare + 1
  | .agg parts => uptoBulkAll parts + 1
  | .iface _ d => uptoBulk d + 1
  | .map entries => uptoBulkEntries entries + 1
  | .held _ => 1
def uptoBulkAll {H : Type} : List (DataW H) → Nat
  | [] => 0
  | d :: r => uptoBulk d + uptoBulkAll r
def uptoBulkEntries {H : Type} : List (Lit × DataW H) → Nat
  | [] => 0
  | x :: r => uptoBulkEntry x + uptoBulkEntries r
def uptoBulkEntry {H : Type} : Lit × DataW H → Nat
  | (.string bytes, d) => bytes.length + uptoBulk d + 1
  | (_, d) => uptoBulk d + 1
 end
def uptoSmall : (H : Type) → List (DataW H) → Bool := fun _ ds => decide (uptoBulkAll ds ≤ 1048576)
def OpenSpec.upto (s : _root_.Go.ChangeSpec) : _root_.Go.OpenSpec := { _root_.Go.OpenSpec.ofChange s with cond := some uptoSmall }

/-- 'umpiragetop.TopElim', WHERE WHAT IT READS IS OF BULK AT MOST 1048576: true; the input reads as it did. -/
def topElimUptoRow : OpenClaim := { program := "ytfjafkocejoigaagreat", sum := "08e6e5663f95882b2ecd05b0a95a44138c5d673bf3445531fd1ee913fdd70694", func := "umpirage/umpiragetop.TopElim", spec := "topElim", unfollowed := true, recurses := true, plainKeys := false, apart := false, narrowed := true }
def TopElimUptoSaid : Prop := topElimUptoRow.holds Tryz.pinned (OpenSpec.upto topElimSpec)

/-- 'umpiragetop.TopChecks', WHERE WHAT IT READS IS OF BULK AT MOST 1048576: true; the input reads as it did. -/
def topChecksUptoRow : OpenClaim := { program := "ytfjafkocejoigaagreat", sum := "08e6e5663f95882b2ecd05b0a95a44138c5d673bf3445531fd1ee913fdd70694", func := "umpirage/umpiragetop.TopChecks", spec := "topChecks", unfollowed := true, recurses := true, plainKeys := false, apart := false, narrowed := true }
def TopChecksUptoSaid : Prop := topChecksUptoRow.holds Tryz.pinned (OpenSpec.upto topChecksSpec)

/-- 'umpiragetop.TopBetween', WHERE WHAT IT READS IS OF BULK AT MOST 1048576: true; the input reads as it did. -/
def topBetweenUptoRow : OpenClaim := { program := "ytfjafkocejoigaagreat", sum := "08e6e5663f95882b2ecd05b0a95a44138c5d673bf3445531fd1ee913fdd70694", func := "umpirage/umpiragetop.TopBetween", spec := "topBetween", unfollowed := true, recurses := true, plainKeys := false, apart := false, narrowed := true }
def TopBetweenUptoSaid : Prop := topBetweenUptoRow.holds Tryz.pinned (OpenSpec.upto topBetweenSpec)

/-- 'umpiragetop.TopSearch', WHERE WHAT IT READS IS OF BULK AT MOST 1048576: true; the input reads as it did. -/
def topSearchUptoRow : OpenClaim := { program := "ytfjafkocejoigaagreat", sum := "08e6e5663f95882b2ecd05b0a95a44138c5d673bf3445531fd1ee913fdd70694", func := "umpirage/umpiragetop.TopSearch", spec := "topSearch", unfollowed := true, recurses := true, plainKeys := false, apart := false, narrowed := true }
def TopSearchUptoSaid : Prop := topSearchUptoRow.holds Tryz.pinned (OpenSpec.upto topSearchSpec)

end Rows
end Go.Proofs.YtfjafkocejoigaaGreat
