/-
  No cell of these rows narrows 'for every input' (looked for: loops, veiled, ifaces, maps, wideKeys, modest, calm, conditions, laid).
  DERIVED. THE GIVEN ROWS OF THIS SEAT. 12 by the template 'for every input the law returns true; each argument reads behind the call as it read before'; 0 by the template 'total and deterministic' (their statements: YtofonmfoificjaaTotals.lean).
  GIVEN WITH THE SEED: the statements are not yours to turn. If you find one false, say at which input.
  Laid BY PROGRAM, IN A SANDBOX (cutbox-rows.mjs): the forced cells as the released guide's own fill.sh prints them over the translation aae1f332523ecfdf… (all of the seat's roots in one cut). By AI agents, Wed Nov 11 2026. No macro, syntax, notation, axiom, sorry.
-/
import Derived.Test.YtofonmfoificjaaChecked
import GoSem.Claim
import GoSem.ClaimJoined
import GoSem.ClaimMapViews
import Derived.JoinedTies
import Derived.KernelRfl
namespace Go.Proofs.Ytofonmfoificjaa
/- THE CELL 'sum', in the pinned program and in every row, IS THE sha256 OF THE DUMP (.gsa) THAT YtofonmfoificjaaProg.lean LOADS. Nothing in Lean hashes anything: it is a label: what it is worth is what the hold of that sum in a sandbox is worth. -/
noncomputable def Try.pinned : Pinned := { name := "ytofonmfoificjaa", sum := "aae1f332523ecfdfe6115e07ad3825ee3c3f39454e9fdd3add452cd146b7090a", checked := Try.checked }
namespace Rows
def none {H : Type} : Left H := { results := [], args := [] }

/-- 'umpiragelaw4.SoftMore': WHATEVER THE INPUT: true; the input reads as it did. -/
def softMoreSpec : ChangeSpec := { name := "softMore", fn := fun _ => fun
  | [d1, d2, d3, d4, d5] => { results := [.lit (.bool true)], args := [d1, d2, d3, d4, d5] }
  | _ => none }
def softMoreRow : OpenClaim := { program := "ytofonmfoificjaa", sum := "aae1f332523ecfdfe6115e07ad3825ee3c3f39454e9fdd3add452cd146b7090a", func := "umpirage/umpiragelaw4.SoftMore", spec := "softMore", unfollowed := true, recurses := true, apart := false }
def SoftMoreSaid : Prop := softMoreRow.holds Try.pinned (OpenSpec.ofChange softMoreSpec)

/-- ITS FALSE NEIGHBOUR: 'it returns false'. Refute it at one input. -/
def softMoreWrong : ChangeSpec := { name := "softMore", fn := fun _ => fun
  | [d1, d2, d3, d4, d5] => { results := [.lit (.bool false)], args := [d1, d2, d3, d4, d5] }
  | _ => none }
def SoftMoreWrongFalsely : Prop := softMoreRow.holds Try.pinned (OpenSpec.ofChange softMoreWrong)

/-- 'umpiragelaw4.AllFew': WHATEVER THE INPUT: true; the input reads as it did. -/
def allFewSpec : ChangeSpec := { name := "allFew", fn := fun _ => fun
  | [d1, d2] => { results := [.lit (.bool true)], args := [d1, d2] }
  | _ => none }
def allFewRow : OpenClaim := { program := "ytofonmfoificjaa", sum := "aae1f332523ecfdfe6115e07ad3825ee3c3f39454e9fdd3add452cd146b7090a", func := "umpirage/umpiragelaw4.AllFew", spec := "allFew", unfollowed := true, recurses := true, apart := false }
def AllFewSaid : Prop := allFewRow.holds Try.pinned (OpenSpec.ofChange allFewSpec)

/-- ITS FALSE NEIGHBOUR: 'it returns false'. Refute it at one input. -/
def allFewWrong : ChangeSpec := { name := "allFew", fn := fun _ => fun
  | [d1, d2] => { results := [.lit (.bool false)], args := [d1, d2] }
  | _ => none }
def AllFewWrongFalsely : Prop := allFewRow.holds Try.pinned (OpenSpec.ofChange allFewWrong)

/-- 'umpiragelaw4.WalkDoes': WHATEVER THE INPUT: true; the input reads as it did. -/
def walkDoesSpec : ChangeSpec := { name := "walkDoes", fn := fun _ => fun
  | [d1, d2, d3] => { results := [.lit (.bool true)], args := [d1, d2, d3] }
  | _ => none }
def walkDoesRow : OpenClaim := { program := "ytofonmfoificjaa", sum := "aae1f332523ecfdfe6115e07ad3825ee3c3f39454e9fdd3add452cd146b7090a", func := "umpirage/umpiragelaw4.WalkDoes", spec := "walkDoes", unfollowed := true, recurses := true, apart := false }
def WalkDoesSaid : Prop := walkDoesRow.holds Try.pinned (OpenSpec.ofChange walkDoesSpec)

/-- ITS FALSE NEIGHBOUR: 'it returns false'. Refute it at one input. -/
def walkDoesWrong : ChangeSpec := { name := "walkDoes", fn := fun _ => fun
  | [d1, d2, d3] => { results := [.lit (.bool false)], args := [d1, d2, d3] }
  | _ => none }
def WalkDoesWrongFalsely : Prop := walkDoesRow.holds Try.pinned (OpenSpec.ofChange walkDoesWrong)

/-- 'umpiragelaw4.WalkStops': WHATEVER THE INPUT: true; the input reads as it did. -/
def walkStopsSpec : ChangeSpec := { name := "walkStops", fn := fun _ => fun
  | [d1, d2, d3] => { results := [.lit (.bool true)], args := [d1, d2, d3] }
  | _ => none }
def walkStopsRow : OpenClaim := { program := "ytofonmfoificjaa", sum := "aae1f332523ecfdfe6115e07ad3825ee3c3f39454e9fdd3add452cd146b7090a", func := "umpirage/umpiragelaw4.WalkStops", spec := "walkStops", unfollowed := true, recurses := true, apart := false }
def WalkStopsSaid : Prop := walkStopsRow.holds Try.pinned (OpenSpec.ofChange walkStopsSpec)

/-- ITS FALSE NEIGHBOUR: 'it returns false'. Refute it at one input. -/
def walkStopsWrong : ChangeSpec := { name := "walkStops", fn := fun _ => fun
  | [d1, d2, d3] => { results := [.lit (.bool false)], args := [d1, d2, d3] }
  | _ => none }
def WalkStopsWrongFalsely : Prop := walkStopsRow.holds Try.pinned (OpenSpec.ofChange walkStopsWrong)

/-- 'umpiragelaw4.ParCnfs': WHATEVER THE INPUT: true; the input reads as it did. -/
def parCnfsSpec : ChangeSpec := { name := "parCnfs", fn := fun _ => fun
  | [d1, d2] => { results := [.lit (.bool true)], args := [d1, d2] }
  | _ => none }
def parCnfsRow : OpenClaim := { program := "ytofonmfoificjaa", sum := "aae1f332523ecfdfe6115e07ad3825ee3c3f39454e9fdd3add452cd146b7090a", func := "umpirage/umpiragelaw4.ParCnfs", spec := "parCnfs", unfollowed := true, recurses := true, apart := false }
def ParCnfsSaid : Prop := parCnfsRow.holds Try.pinned (OpenSpec.ofChange parCnfsSpec)

/-- ITS FALSE NEIGHBOUR: 'it returns false'. Refute it at one input. -/
def parCnfsWrong : ChangeSpec := { name := "parCnfs", fn := fun _ => fun
  | [d1, d2] => { results := [.lit (.bool false)], args := [d1, d2] }
  | _ => none }
def ParCnfsWrongFalsely : Prop := parCnfsRow.holds Try.pinned (OpenSpec.ofChange parCnfsWrong)

/-- 'umpiragelaw4.FewCores': WHATEVER THE INPUT: true; the input reads as it did. -/
def fewCoresSpec : ChangeSpec := { name := "fewCores", fn := fun _ => fun
  | [d] => { results := [.lit (.bool true)], args := [d] }
  | _ => none }
def fewCoresRow : OpenClaim := { program := "ytofonmfoificjaa", sum := "aae1f332523ecfdfe6115e07ad3825ee3c3f39454e9fdd3add452cd146b7090a", func := "umpirage/umpiragelaw4.FewCores", spec := "fewCores", unfollowed := true, recurses := true, apart := false }
def FewCoresSaid : Prop := fewCoresRow.holds Try.pinned (OpenSpec.ofChange fewCoresSpec)

/-- ITS FALSE NEIGHBOUR: 'it returns false'. Refute it at one input. -/
def fewCoresWrong : ChangeSpec := { name := "fewCores", fn := fun _ => fun
  | [d] => { results := [.lit (.bool false)], args := [d] }
  | _ => none }
def FewCoresWrongFalsely : Prop := fewCoresRow.holds Try.pinned (OpenSpec.ofChange fewCoresWrong)

/-- 'umpiragelaw4.FewMends': WHATEVER THE INPUT: true; the input reads as it did. -/
def fewMendsSpec : ChangeSpec := { name := "fewMends", fn := fun _ => fun
  | [d] => { results := [.lit (.bool true)], args := [d] }
  | _ => none }
def fewMendsRow : OpenClaim := { program := "ytofonmfoificjaa", sum := "aae1f332523ecfdfe6115e07ad3825ee3c3f39454e9fdd3add452cd146b7090a", func := "umpirage/umpiragelaw4.FewMends", spec := "fewMends", unfollowed := true, recurses := true, apart := false }
def FewMendsSaid : Prop := fewMendsRow.holds Try.pinned (OpenSpec.ofChange fewMendsSpec)

/-- ITS FALSE NEIGHBOUR: 'it returns false'. Refute it at one input. -/
def fewMendsWrong : ChangeSpec := { name := "fewMends", fn := fun _ => fun
  | [d] => { results := [.lit (.bool false)], args := [d] }
  | _ => none }
def FewMendsWrongFalsely : Prop := fewMendsRow.holds Try.pinned (OpenSpec.ofChange fewMendsWrong)

/-- 'umpiragelaw4.FewAlls': WHATEVER THE INPUT: true; the input reads as it did. -/
def fewAllsSpec : ChangeSpec := { name := "fewAlls", fn := fun _ => fun
  | [d] => { results := [.lit (.bool true)], args := [d] }
  | _ => none }
def fewAllsRow : OpenClaim := { program := "ytofonmfoificjaa", sum := "aae1f332523ecfdfe6115e07ad3825ee3c3f39454e9fdd3add452cd146b7090a", func := "umpirage/umpiragelaw4.FewAlls", spec := "fewAlls", unfollowed := true, recurses := true, apart := false }
def FewAllsSaid : Prop := fewAllsRow.holds Try.pinned (OpenSpec.ofChange fewAllsSpec)

/-- ITS FALSE NEIGHBOUR: 'it returns false'. Refute it at one input. -/
def fewAllsWrong : ChangeSpec := { name := "fewAlls", fn := fun _ => fun
  | [d] => { results := [.lit (.bool false)], args := [d] }
  | _ => none }
def FewAllsWrongFalsely : Prop := fewAllsRow.holds Try.pinned (OpenSpec.ofChange fewAllsWrong)

/-- 'umpiragelaw4.FewHit': WHATEVER THE INPUT: true; the input reads as it did. -/
def fewHitSpec : ChangeSpec := { name := "fewHit", fn := fun _ => fun
  | [d] => { results := [.lit (.bool true)], args := [d] }
  | _ => none }
def fewHitRow : OpenClaim := { program := "ytofonmfoificjaa", sum := "aae1f332523ecfdfe6115e07ad3825ee3c3f39454e9fdd3add452cd146b7090a", func := "umpirage/umpiragelaw4.FewHit", spec := "fewHit", unfollowed := true, recurses := true, apart := false }
def FewHitSaid : Prop := fewHitRow.holds Try.pinned (OpenSpec.ofChange fewHitSpec)

/-- ITS FALSE NEIGHBOUR: 'it returns false'. Refute it at one input. -/
def fewHitWrong : ChangeSpec := { name := "fewHit", fn := fun _ => fun
  | [d] => { results := [.lit (.bool false)], args := [d] }
  | _ => none }
def FewHitWrongFalsely : Prop := fewHitRow.holds Try.pinned (OpenSpec.ofChange fewHitWrong)

/-- 'umpiragelaw4.ParFinds': WHATEVER THE INPUT: true; the input reads as it did. -/
def parFindsSpec : ChangeSpec := { name := "parFinds", fn := fun _ => fun
  | [d] => { results := [.lit (.bool true)], args := [d] }
  | _ => none }
def parFindsRow : OpenClaim := { program := "ytofonmfoificjaa", sum := "aae1f332523ecfdfe6115e07ad3825ee3c3f39454e9fdd3add452cd146b7090a", func := "umpirage/umpiragelaw4.ParFinds", spec := "parFinds", unfollowed := true, recurses := true, apart := false }
def ParFindsSaid : Prop := parFindsRow.holds Try.pinned (OpenSpec.ofChange parFindsSpec)

/-- ITS FALSE NEIGHBOUR: 'it returns false'. Refute it at one input. -/
def parFindsWrong : ChangeSpec := { name := "parFinds", fn := fun _ => fun
  | [d] => { results := [.lit (.bool false)], args := [d] }
  | _ => none }
def ParFindsWrongFalsely : Prop := parFindsRow.holds Try.pinned (OpenSpec.ofChange parFindsWrong)

/-- 'umpiragelaw4.ParBack': WHATEVER THE INPUT: true; the input reads as it did. -/
def parBackSpec : ChangeSpec := { name := "parBack", fn := fun _ => fun
  | [d1, d2, d3] => { results := [.lit (.bool true)], args := [d1, d2, d3] }
  | _ => none }
def parBackRow : OpenClaim := { program := "ytofonmfoificjaa", sum := "aae1f332523ecfdfe6115e07ad3825ee3c3f39454e9fdd3add452cd146b7090a", func := "umpirage/umpiragelaw4.ParBack", spec := "parBack", unfollowed := true, recurses := true, apart := false }
def ParBackSaid : Prop := parBackRow.holds Try.pinned (OpenSpec.ofChange parBackSpec)

/-- ITS FALSE NEIGHBOUR: 'it returns false'. Refute it at one input. -/
def parBackWrong : ChangeSpec := { name := "parBack", fn := fun _ => fun
  | [d1, d2, d3] => { results := [.lit (.bool false)], args := [d1, d2, d3] }
  | _ => none }
def ParBackWrongFalsely : Prop := parBackRow.holds Try.pinned (OpenSpec.ofChange parBackWrong)

/-- 'umpiragelaw4.ParSolves': WHATEVER THE INPUT: true; the input reads as it did. -/
def parSolvesSpec : ChangeSpec := { name := "parSolves", fn := fun _ => fun
  | [d1, d2] => { results := [.lit (.bool true)], args := [d1, d2] }
  | _ => none }
def parSolvesRow : OpenClaim := { program := "ytofonmfoificjaa", sum := "aae1f332523ecfdfe6115e07ad3825ee3c3f39454e9fdd3add452cd146b7090a", func := "umpirage/umpiragelaw4.ParSolves", spec := "parSolves", unfollowed := true, recurses := true, apart := false }
def ParSolvesSaid : Prop := parSolvesRow.holds Try.pinned (OpenSpec.ofChange parSolvesSpec)

/-- ITS FALSE NEIGHBOUR: 'it returns false'. Refute it at one input. -/
def parSolvesWrong : ChangeSpec := { name := "parSolves", fn := fun _ => fun
  | [d1, d2] => { results := [.lit (.bool false)], args := [d1, d2] }
  | _ => none }
def ParSolvesWrongFalsely : Prop := parSolvesRow.holds Try.pinned (OpenSpec.ofChange parSolvesWrong)

/- THE SECOND FORM. 'bulk': how many values and letters a reading holds, each counted each time it is reached (what is shared counts as often as it is met; a slice's spare places count too). A statement '..UptoSaid' is the law's where the arguments, and the package variables that the reading takes, are together of bulk at most 1048576: NARROWER than '..Said'. Prove '..Said' where nothing that the law and all that it calls make is longer than what came in: it says more and counts as full. Else prove '..UptoSaid'. A law counts once. -/
mutual
def uptoBulk {H : Type} : DataW H → Nat
  | .lit (.string bytes) => bytes.length + 1
  | .lit _ => 1
  | .nil => 1
  | .ptr d => uptoBulk d + 1
  | .slice elems spare => uptoBulkAll elems + uptoBulkAll spare + 1
  | .agg parts => uptoBulkAll parts + 1
  | .iface _ d => uptoBulk d + 1
  | .map entries => uptoBulkEntries entries + 1
  | .held _ => 1
def uptoBulkAll {H : Type} : List (DataW H) → Nat
  | [] => 0
  | d :: r => uptoBulk d + uptoBulkAll r
def uptoBulkEntries {H : Type} : List (Lit × DataW H) → Nat
  | [] => 0
  | x :: r => uptoBulkEntry x + uptoBulkEntries r
def uptoBulkEntry {H : Type} : Lit × DataW H → Nat
  | (.string bytes, d) => bytes.length + uptoBulk d + 1
  | (_, d) => uptoBulk d + 1
 end
def uptoSmall : (H : Type) → List (DataW H) → Bool := fun _ ds => decide (uptoBulkAll ds ≤ 1048576)
def OpenSpec.upto (s : _root_.Go.ChangeSpec) : _root_.Go.OpenSpec := { _root_.Go.OpenSpec.ofChange s with cond := some uptoSmall }

/-- 'umpiragelaw4.SoftMore', WHERE WHAT IT READS IS OF BULK AT MOST 1048576: true; the input reads as it did. -/
def softMoreUptoRow : OpenClaim := { program := "ytofonmfoificjaa", sum := "aae1f332523ecfdfe6115e07ad3825ee3c3f39454e9fdd3add452cd146b7090a", func := "umpirage/umpiragelaw4.SoftMore", spec := "softMore", unfollowed := true, recurses := true, apart := false, narrowed := true }
def SoftMoreUptoSaid : Prop := softMoreUptoRow.holds Try.pinned (OpenSpec.upto softMoreSpec)

/-- 'umpiragelaw4.AllFew', WHERE WHAT IT READS IS OF BULK AT MOST 1048576: true; the input reads as it did. -/
def allFewUptoRow : OpenClaim := { program := "ytofonmfoificjaa", sum := "aae1f332523ecfdfe6115e07ad3825ee3c3f39454e9fdd3add452cd146b7090a", func := "umpirage/umpiragelaw4.AllFew", spec := "allFew", unfollowed := true, recurses := true, apart := false, narrowed := true }
def AllFewUptoSaid : Prop := allFewUptoRow.holds Try.pinned (OpenSpec.upto allFewSpec)

/-- 'umpiragelaw4.WalkDoes', WHERE WHAT IT READS IS OF BULK AT MOST 1048576: true; the input reads as it did. -/
def walkDoesUptoRow : OpenClaim := { program := "ytofonmfoificjaa", sum := "aae1f332523ecfdfe6115e07ad3825ee3c3f39454e9fdd3add452cd146b7090a", func := "umpirage/umpiragelaw4.WalkDoes", spec := "walkDoes", unfollowed := true, recurses := true, apart := false, narrowed := true }
def WalkDoesUptoSaid : Prop := walkDoesUptoRow.holds Try.pinned (OpenSpec.upto walkDoesSpec)

/-- 'umpiragelaw4.WalkStops', WHERE WHAT IT READS IS OF BULK AT MOST 1048576: true; the input reads as it did. -/
def walkStopsUptoRow : OpenClaim := { program := "ytofonmfoificjaa", sum := "aae1f332523ecfdfe6115e07ad3825ee3c3f39454e9fdd3add452cd146b7090a", func := "umpirage/umpiragelaw4.WalkStops", spec := "walkStops", unfollowed := true, recurses := true, apart := false, narrowed := true }
def WalkStopsUptoSaid : Prop := walkStopsUptoRow.holds Try.pinned (OpenSpec.upto walkStopsSpec)

/-- 'umpiragelaw4.ParCnfs', WHERE WHAT IT READS IS OF BULK AT MOST 1048576: true; the input reads as it did. -/
def parCnfsUptoRow : OpenClaim := { program := "ytofonmfoificjaa", sum := "aae1f332523ecfdfe6115e07ad3825ee3c3f39454e9fdd3add452cd146b7090a", func := "umpirage/umpiragelaw4.ParCnfs", spec := "parCnfs", unfollowed := true, recurses := true, apart := false, narrowed := true }
def ParCnfsUptoSaid : Prop := parCnfsUptoRow.holds Try.pinned (OpenSpec.upto parCnfsSpec)

/-- 'umpiragelaw4.FewCores', WHERE WHAT IT READS IS OF BULK AT MOST 1048576: true; the input reads as it did. -/
def fewCoresUptoRow : OpenClaim := { program := "ytofonmfoificjaa", sum := "aae1f332523ecfdfe6115e07ad3825ee3c3f39454e9fdd3add452cd146b7090a", func := "umpirage/umpiragelaw4.FewCores", spec := "fewCores", unfollowed := true, recurses := true, apart := false, narrowed := true }
def FewCoresUptoSaid : Prop := fewCoresUptoRow.holds Try.pinned (OpenSpec.upto fewCoresSpec)

/-- 'umpiragelaw4.FewMends', WHERE WHAT IT READS IS OF BULK AT MOST 1048576: true; the input reads as it did. -/
def fewMendsUptoRow : OpenClaim := { program := "ytofonmfoificjaa", sum := "aae1f332523ecfdfe6115e07ad3825ee3c3f39454e9fdd3add452cd146b7090a", func := "umpirage/umpiragelaw4.FewMends", spec := "fewMends", unfollowed := true, recurses := true, apart := false, narrowed := true }
def FewMendsUptoSaid : Prop := fewMendsUptoRow.holds Try.pinned (OpenSpec.upto fewMendsSpec)

/-- 'umpiragelaw4.FewAlls', WHERE WHAT IT READS IS OF BULK AT MOST 1048576: true; the input reads as it did. -/
def fewAllsUptoRow : OpenClaim := { program := "ytofonmfoificjaa", sum := "aae1f332523ecfdfe6115e07ad3825ee3c3f39454e9fdd3add452cd146b7090a", func := "umpirage/umpiragelaw4.FewAlls", spec := "fewAlls", unfollowed := true, recurses := true, apart := false, narrowed := true }
def FewAllsUptoSaid : Prop := fewAllsUptoRow.holds Try.pinned (OpenSpec.upto fewAllsSpec)

/-- 'umpiragelaw4.FewHit', WHERE WHAT IT READS IS OF BULK AT MOST 1048576: true; the input reads as it did. -/
def fewHitUptoRow : OpenClaim := { program := "ytofonmfoificjaa", sum := "aae1f332523ecfdfe6115e07ad3825ee3c3f39454e9fdd3add452cd146b7090a", func := "umpirage/umpiragelaw4.FewHit", spec := "fewHit", unfollowed := true, recurses := true, apart := false, narrowed := true }
def FewHitUptoSaid : Prop := fewHitUptoRow.holds Try.pinned (OpenSpec.upto fewHitSpec)

/-- 'umpiragelaw4.ParFinds', WHERE WHAT IT READS IS OF BULK AT MOST 1048576: true; the input reads as it did. -/
def parFindsUptoRow : OpenClaim := { program := "ytofonmfoificjaa", sum := "aae1f332523ecfdfe6115e07ad3825ee3c3f39454e9fdd3add452cd146b7090a", func := "umpirage/umpiragelaw4.ParFinds", spec := "parFinds", unfollowed := true, recurses := true, apart := false, narrowed := true }
def ParFindsUptoSaid : Prop := parFindsUptoRow.holds Try.pinned (OpenSpec.upto parFindsSpec)

/-- 'umpiragelaw4.ParBack', WHERE WHAT IT READS IS OF BULK AT MOST 1048576: true; the input reads as it did. -/
def parBackUptoRow : OpenClaim := { program := "ytofonmfoificjaa", sum := "aae1f332523ecfdfe6115e07ad3825ee3c3f39454e9fdd3add452cd146b7090a", func := "umpirage/umpiragelaw4.ParBack", spec := "parBack", unfollowed := true, recurses := true, apart := false, narrowed := true }
def ParBackUptoSaid : Prop := parBackUptoRow.holds Try.pinned (OpenSpec.upto parBackSpec)

/-- 'umpiragelaw4.ParSolves', WHERE WHAT IT READS IS OF BULK AT MOST 1048576: true; the input reads as it did. -/
def parSolvesUptoRow : OpenClaim := { program := "ytofonmfoificjaa", sum := "aae1f332523ecfdfe6115e07ad3825ee3c3f39454e9fdd3add452cd146b7090a", func := "umpirage/umpiragelaw4.ParSolves", spec := "parSolves", unfollowed := true, recurses := true, apart := false, narrowed := true }
def ParSolvesUptoSaid : Prop := parSolvesUptoRow.holds Try.pinned (OpenSpec.upto parSolvesSpec)

end Rows
end Go.Proofs.Ytofonmfoificjaa
