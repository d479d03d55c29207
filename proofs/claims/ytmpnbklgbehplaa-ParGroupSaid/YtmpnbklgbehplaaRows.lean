/-
  No cell of these rows narrows 'for every input' (looked for: loops, veiled, ifaces, maps, wideKeys, modest, calm, conditions, laid).
  DERIVED. THE GIVEN ROWS OF THIS SEAT. 12 by the template 'for every input the law returns true; each argument reads behind the call as it read before'; 0 by the template 'total and deterministic' (their statements: YtmpnbklgbehplaaTotals.lean).
  GIVEN WITH THE SEED: the statements are not yours to turn. If you find one false, say at which input.
  Laid BY PROGRAM, IN A SANDBOX (cutbox-rows.mjs): the forced cells as the released guide's own fill.sh prints them over the translation 4de8ff4cdd008e07… (all of the seat's roots in one cut). By AI agents, Wed Nov 11 2026. No macro, syntax, notation, axiom, sorry.
-/
import Derived.Test.YtmpnbklgbehplaaChecked
import GoSem.Claim
import GoSem.ClaimJoined
import GoSem.ClaimMapViews
import Derived.JoinedTies
import Derived.KernelRfl
namespace Go.Proofs.Ytmpnbklgbehplaa
/- THE CELL 'sum', in the pinned program and in every row, IS THE sha256 OF THE DUMP (.gsa) THAT YtmpnbklgbehplaaProg.lean LOADS. Nothing in Lean hashes anything: it is a label: what it is worth is what the hold of that sum in a sandbox is worth. -/
noncomputable def Try.pinned : Pinned := { name := "ytmpnbklgbehplaa", sum := "4de8ff4cdd008e07677b00007e4eb8664ad5c620bb27b4b41104e104dacff12d", checked := Try.checked }
namespace Rows
def none {H : Type} : Left H := { results := [], args := [] }

/-- 'umpiragelaw4.CardSorts': WHATEVER THE INPUT: true; the input reads as it did. -/
def cardSortsSpec : ChangeSpec := { name := "cardSorts", fn := fun _ => fun
  | [d1, d2, d3] => { results := [.lit (.bool true)], args := [d1, d2, d3] }
  | _ => none }
def cardSortsRow : OpenClaim := { program := "ytmpnbklgbehplaa", sum := "4de8ff4cdd008e07677b00007e4eb8664ad5c620bb27b4b41104e104dacff12d", func := "umpirage/umpiragelaw4.CardSorts", spec := "cardSorts", unfollowed := true, recurses := true, apart := false }
def CardSortsSaid : Prop := cardSortsRow.holds Try.pinned (OpenSpec.ofChange cardSortsSpec)

/-- ITS FALSE NEIGHBOUR: 'it returns false'. Refute it at one input. -/
def cardSortsWrong : ChangeSpec := { name := "cardSorts", fn := fun _ => fun
  | [d1, d2, d3] => { results := [.lit (.bool false)], args := [d1, d2, d3] }
  | _ => none }
def CardSortsWrongFalsely : Prop := cardSortsRow.holds Try.pinned (OpenSpec.ofChange cardSortsWrong)

/-- 'umpiragelaw4.AllCounts': WHATEVER THE INPUT: true; the input reads as it did. -/
def allCountsSpec : ChangeSpec := { name := "allCounts", fn := fun _ => fun
  | [d] => { results := [.lit (.bool true)], args := [d] }
  | _ => none }
def allCountsRow : OpenClaim := { program := "ytmpnbklgbehplaa", sum := "4de8ff4cdd008e07677b00007e4eb8664ad5c620bb27b4b41104e104dacff12d", func := "umpirage/umpiragelaw4.AllCounts", spec := "allCounts", unfollowed := true, recurses := true, apart := false }
def AllCountsSaid : Prop := allCountsRow.holds Try.pinned (OpenSpec.ofChange allCountsSpec)

/-- ITS FALSE NEIGHBOUR: 'it returns false'. Refute it at one input. -/
def allCountsWrong : ChangeSpec := { name := "allCounts", fn := fun _ => fun
  | [d] => { results := [.lit (.bool false)], args := [d] }
  | _ => none }
def AllCountsWrongFalsely : Prop := allCountsRow.holds Try.pinned (OpenSpec.ofChange allCountsWrong)

/-- 'umpiragelaw4.AllHalves': WHATEVER THE INPUT: true; the input reads as it did. -/
def allHalvesSpec : ChangeSpec := { name := "allHalves", fn := fun _ => fun
  | [d1, d2] => { results := [.lit (.bool true)], args := [d1, d2] }
  | _ => none }
def allHalvesRow : OpenClaim := { program := "ytmpnbklgbehplaa", sum := "4de8ff4cdd008e07677b00007e4eb8664ad5c620bb27b4b41104e104dacff12d", func := "umpirage/umpiragelaw4.AllHalves", spec := "allHalves", unfollowed := true, recurses := true, apart := false }
def AllHalvesSaid : Prop := allHalvesRow.holds Try.pinned (OpenSpec.ofChange allHalvesSpec)

/-- ITS FALSE NEIGHBOUR: 'it returns false'. Refute it at one input. -/
def allHalvesWrong : ChangeSpec := { name := "allHalves", fn := fun _ => fun
  | [d1, d2] => { results := [.lit (.bool false)], args := [d1, d2] }
  | _ => none }
def AllHalvesWrongFalsely : Prop := allHalvesRow.holds Try.pinned (OpenSpec.ofChange allHalvesWrong)

/-- 'umpiragelaw4.AllModels': WHATEVER THE INPUT: true; the input reads as it did. -/
def allModelsSpec : ChangeSpec := { name := "allModels", fn := fun _ => fun
  | [d1, d2] => { results := [.lit (.bool true)], args := [d1, d2] }
  | _ => none }
def allModelsRow : OpenClaim := { program := "ytmpnbklgbehplaa", sum := "4de8ff4cdd008e07677b00007e4eb8664ad5c620bb27b4b41104e104dacff12d", func := "umpirage/umpiragelaw4.AllModels", spec := "allModels", unfollowed := true, recurses := true, apart := false }
def AllModelsSaid : Prop := allModelsRow.holds Try.pinned (OpenSpec.ofChange allModelsSpec)

/-- ITS FALSE NEIGHBOUR: 'it returns false'. Refute it at one input. -/
def allModelsWrong : ChangeSpec := { name := "allModels", fn := fun _ => fun
  | [d1, d2] => { results := [.lit (.bool false)], args := [d1, d2] }
  | _ => none }
def AllModelsWrongFalsely : Prop := allModelsRow.holds Try.pinned (OpenSpec.ofChange allModelsWrong)

/-- 'umpiragelaw4.AllOntos': WHATEVER THE INPUT: true; the input reads as it did. -/
def allOntosSpec : ChangeSpec := { name := "allOntos", fn := fun _ => fun
  | [d1, d2] => { results := [.lit (.bool true)], args := [d1, d2] }
  | _ => none }
def allOntosRow : OpenClaim := { program := "ytmpnbklgbehplaa", sum := "4de8ff4cdd008e07677b00007e4eb8664ad5c620bb27b4b41104e104dacff12d", func := "umpirage/umpiragelaw4.AllOntos", spec := "allOntos", unfollowed := true, recurses := true, apart := false }
def AllOntosSaid : Prop := allOntosRow.holds Try.pinned (OpenSpec.ofChange allOntosSpec)

/-- ITS FALSE NEIGHBOUR: 'it returns false'. Refute it at one input. -/
def allOntosWrong : ChangeSpec := { name := "allOntos", fn := fun _ => fun
  | [d1, d2] => { results := [.lit (.bool false)], args := [d1, d2] }
  | _ => none }
def AllOntosWrongFalsely : Prop := allOntosRow.holds Try.pinned (OpenSpec.ofChange allOntosWrong)

/-- 'umpiragelaw4.AllFew': WHATEVER THE INPUT: true; the input reads as it did. -/
def allFewSpec : ChangeSpec := { name := "allFew", fn := fun _ => fun
  | [d1, d2] => { results := [.lit (.bool true)], args := [d1, d2] }
  | _ => none }
def allFewRow : OpenClaim := { program := "ytmpnbklgbehplaa", sum := "4de8ff4cdd008e07677b00007e4eb8664ad5c620bb27b4b41104e104dacff12d", func := "umpirage/umpiragelaw4.AllFew", spec := "allFew", unfollowed := true, recurses := true, apart := false }
def AllFewSaid : Prop := allFewRow.holds Try.pinned (OpenSpec.ofChange allFewSpec)

/-- ITS FALSE NEIGHBOUR: 'it returns false'. Refute it at one input. -/
def allFewWrong : ChangeSpec := { name := "allFew", fn := fun _ => fun
  | [d1, d2] => { results := [.lit (.bool false)], args := [d1, d2] }
  | _ => none }
def AllFewWrongFalsely : Prop := allFewRow.holds Try.pinned (OpenSpec.ofChange allFewWrong)

/-- 'umpiragelaw4.ParSums': WHATEVER THE INPUT: true; the input reads as it did. -/
def parSumsSpec : ChangeSpec := { name := "parSums", fn := fun _ => fun
  | [d1, d2, d3] => { results := [.lit (.bool true)], args := [d1, d2, d3] }
  | _ => none }
def parSumsRow : OpenClaim := { program := "ytmpnbklgbehplaa", sum := "4de8ff4cdd008e07677b00007e4eb8664ad5c620bb27b4b41104e104dacff12d", func := "umpirage/umpiragelaw4.ParSums", spec := "parSums", recurses := true, apart := false }
def ParSumsSaid : Prop := parSumsRow.holds Try.pinned (OpenSpec.ofChange parSumsSpec)

/-- ITS FALSE NEIGHBOUR: 'it returns false'. Refute it at one input. -/
def parSumsWrong : ChangeSpec := { name := "parSums", fn := fun _ => fun
  | [d1, d2, d3] => { results := [.lit (.bool false)], args := [d1, d2, d3] }
  | _ => none }
def ParSumsWrongFalsely : Prop := parSumsRow.holds Try.pinned (OpenSpec.ofChange parSumsWrong)

/-- 'umpiragelaw4.ParGroup': WHATEVER THE INPUT: true; the input reads as it did. -/
def parGroupSpec : ChangeSpec := { name := "parGroup", fn := fun _ => fun
  | [d1, d2, d3, d4] => { results := [.lit (.bool true)], args := [d1, d2, d3, d4] }
  | _ => none }
def parGroupRow : OpenClaim := { program := "ytmpnbklgbehplaa", sum := "4de8ff4cdd008e07677b00007e4eb8664ad5c620bb27b4b41104e104dacff12d", func := "umpirage/umpiragelaw4.ParGroup", spec := "parGroup", recurses := true, apart := false }
def ParGroupSaid : Prop := parGroupRow.holds Try.pinned (OpenSpec.ofChange parGroupSpec)

/-- ITS FALSE NEIGHBOUR: 'it returns false'. Refute it at one input. -/
def parGroupWrong : ChangeSpec := { name := "parGroup", fn := fun _ => fun
  | [d1, d2, d3, d4] => { results := [.lit (.bool false)], args := [d1, d2, d3, d4] }
  | _ => none }
def ParGroupWrongFalsely : Prop := parGroupRow.holds Try.pinned (OpenSpec.ofChange parGroupWrong)

/-- 'umpiragelaw4.WalkDoes': WHATEVER THE INPUT: true; the input reads as it did. -/
def walkDoesSpec : ChangeSpec := { name := "walkDoes", fn := fun _ => fun
  | [d1, d2, d3] => { results := [.lit (.bool true)], args := [d1, d2, d3] }
  | _ => none }
def walkDoesRow : OpenClaim := { program := "ytmpnbklgbehplaa", sum := "4de8ff4cdd008e07677b00007e4eb8664ad5c620bb27b4b41104e104dacff12d", func := "umpirage/umpiragelaw4.WalkDoes", spec := "walkDoes", unfollowed := true, recurses := true, apart := false }
def WalkDoesSaid : Prop := walkDoesRow.holds Try.pinned (OpenSpec.ofChange walkDoesSpec)

/-- ITS FALSE NEIGHBOUR: 'it returns false'. Refute it at one input. -/
def walkDoesWrong : ChangeSpec := { name := "walkDoes", fn := fun _ => fun
  | [d1, d2, d3] => { results := [.lit (.bool false)], args := [d1, d2, d3] }
  | _ => none }
def WalkDoesWrongFalsely : Prop := walkDoesRow.holds Try.pinned (OpenSpec.ofChange walkDoesWrong)

/-- 'umpiragelaw4.WalkStops': WHATEVER THE INPUT: true; the input reads as it did. -/
def walkStopsSpec : ChangeSpec := { name := "walkStops", fn := fun _ => fun
  | [d1, d2, d3] => { results := [.lit (.bool true)], args := [d1, d2, d3] }
  | _ => none }
def walkStopsRow : OpenClaim := { program := "ytmpnbklgbehplaa", sum := "4de8ff4cdd008e07677b00007e4eb8664ad5c620bb27b4b41104e104dacff12d", func := "umpirage/umpiragelaw4.WalkStops", spec := "walkStops", unfollowed := true, recurses := true, apart := false }
def WalkStopsSaid : Prop := walkStopsRow.holds Try.pinned (OpenSpec.ofChange walkStopsSpec)

/-- ITS FALSE NEIGHBOUR: 'it returns false'. Refute it at one input. -/
def walkStopsWrong : ChangeSpec := { name := "walkStops", fn := fun _ => fun
  | [d1, d2, d3] => { results := [.lit (.bool false)], args := [d1, d2, d3] }
  | _ => none }
def WalkStopsWrongFalsely : Prop := walkStopsRow.holds Try.pinned (OpenSpec.ofChange walkStopsWrong)

/-- 'umpiragelaw4.ParCnfs': WHATEVER THE INPUT: true; the input reads as it did. -/
def parCnfsSpec : ChangeSpec := { name := "parCnfs", fn := fun _ => fun
  | [d1, d2] => { results := [.lit (.bool true)], args := [d1, d2] }
  | _ => none }
def parCnfsRow : OpenClaim := { program := "ytmpnbklgbehplaa", sum := "4de8ff4cdd008e07677b00007e4eb8664ad5c620bb27b4b41104e104dacff12d", func := "umpirage/umpiragelaw4.ParCnfs", spec := "parCnfs", unfollowed := true, recurses := true, apart := false }
def ParCnfsSaid : Prop := parCnfsRow.holds Try.pinned (OpenSpec.ofChange parCnfsSpec)

/-- ITS FALSE NEIGHBOUR: 'it returns false'. Refute it at one input. -/
def parCnfsWrong : ChangeSpec := { name := "parCnfs", fn := fun _ => fun
  | [d1, d2] => { results := [.lit (.bool false)], args := [d1, d2] }
  | _ => none }
def ParCnfsWrongFalsely : Prop := parCnfsRow.holds Try.pinned (OpenSpec.ofChange parCnfsWrong)

/-- 'umpiragelaw4.FewCores': WHATEVER THE INPUT: true; the input reads as it did. -/
def fewCoresSpec : ChangeSpec := { name := "fewCores", fn := fun _ => fun
  | [d] => { results := [.lit (.bool true)], args := [d] }
  | _ => none }
def fewCoresRow : OpenClaim := { program := "ytmpnbklgbehplaa", sum := "4de8ff4cdd008e07677b00007e4eb8664ad5c620bb27b4b41104e104dacff12d", func := "umpirage/umpiragelaw4.FewCores", spec := "fewCores", unfollowed := true, recurses := true, apart := false }
def FewCoresSaid : Prop := fewCoresRow.holds Try.pinned (OpenSpec.ofChange fewCoresSpec)

/-- ITS FALSE NEIGHBOUR: 'it returns false'. Refute it at one input. -/
def fewCoresWrong : ChangeSpec := { name := "fewCores", fn := fun _ => fun
  | [d] => { results := [.lit (.bool false)], args := [d] }
  | _ => none }
def FewCoresWrongFalsely : Prop := fewCoresRow.holds Try.pinned (OpenSpec.ofChange fewCoresWrong)

/- THE SECOND FORM. 'bulk': how many values and letters a reading holds, each counted each time it is reached (what is shared counts as often as it is met; a slice's spare places count too). A statement '..UptoSaid' is the law's where the arguments, and the package variables that the reading takes, are together of bulk at most 1048576: NARROWER than '..Said'. Prove '..Said' where nothing that the law and all that it calls make is longer than what came in: it says more and counts as full. Else prove '..UptoSaid'. A law counts once. -/
mutual
def uptoBulk {H : Type} : DataW H → Nat
  | .lit (.string bytes) => bytes.length + 1
  | .lit _ => 1
  | .nil => 1
  | .ptr d => uptoBulk d + 1
  | .slice elems spare => uptoBulkAll elems + uptoBulkAll spare + 1
  | .agg parts => uptoBulkAll parts + 1
  | .iface _ d => uptoBulk d + 1
  | .map entries => uptoBulkEntries entries + 1
  | .held _ => 1
def uptoBulkAll {H : Type} : List (DataW H) → Nat
  | [] => 0
  | d :: r => uptoBulk d + uptoBulkAll r
def uptoBulkEntries {H : Type} : List (Lit × DataW H) → Nat
  | [] => 0
  | x :: r => uptoBulkEntry x + uptoBulkEntries r
def uptoBulkEntry {H : Type} : Lit × DataW H → Nat
  | (.string bytes, d) => bytes.length + uptoBulk d + 1
  | (_, d) => uptoBulk d + 1
 end
def uptoSmall : (H : Type) → List (DataW H) → Bool := fun _ ds => decide (uptoBulkAll ds ≤ 1048576)
def OpenSpec.upto (s : _root_.Go.ChangeSpec) : _root_.Go.OpenSpec := { _root_.Go.OpenSpec.ofChange s with cond := some uptoSmall }

/-- 'umpiragelaw4.CardSorts', WHERE WHAT IT READS IS OF BULK AT MOST 1048576: true; the input reads as it did. -/
def cardSortsUptoRow : OpenClaim := { program := "ytmpnbklgbehplaa", sum := "4de8ff4cdd008e07677b00007e4eb8664ad5c620bb27b4b41104e104dacff12d", func := "umpirage/umpiragelaw4.CardSorts", spec := "cardSorts", unfollowed := true, recurses := true, apart := false, narrowed := true }
def CardSortsUptoSaid : Prop := cardSortsUptoRow.holds Try.pinned (OpenSpec.upto cardSortsSpec)

/-- 'umpiragelaw4.AllCounts', WHERE WHAT IT READS IS OF BULK AT MOST 1048576: true; the input reads as it did. -/
def allCountsUptoRow : OpenClaim := { program := "ytmpnbklgbehplaa", sum := "4de8ff4cdd008e07677b00007e4eb8664ad5c620bb27b4b41104e104dacff12d", func := "umpirage/umpiragelaw4.AllCounts", spec := "allCounts", unfollowed := true, recurses := true, apart := false, narrowed := true }
def AllCountsUptoSaid : Prop := allCountsUptoRow.holds Try.pinned (OpenSpec.upto allCountsSpec)

/-- 'umpiragelaw4.AllHalves', WHERE WHAT IT READS IS OF BULK AT MOST 1048576: true; the input reads as it did. -/
def allHalvesUptoRow : OpenClaim := { program := "ytmpnbklgbehplaa", sum := "4de8ff4cdd008e07677b00007e4eb8664ad5c620bb27b4b41104e104dacff12d", func := "umpirage/umpiragelaw4.AllHalves", spec := "allHalves", unfollowed := true, recurses := true, apart := false, narrowed := true }
def AllHalvesUptoSaid : Prop := allHalvesUptoRow.holds Try.pinned (OpenSpec.upto allHalvesSpec)

/-- 'umpiragelaw4.AllModels', WHERE WHAT IT READS IS OF BULK AT MOST 1048576: true; the input reads as it did. -/
def allModelsUptoRow : OpenClaim := { program := "ytmpnbklgbehplaa", sum := "4de8ff4cdd008e07677b00007e4eb8664ad5c620bb27b4b41104e104dacff12d", func := "umpirage/umpiragelaw4.AllModels", spec := "allModels", unfollowed := true, recurses := true, apart := false, narrowed := true }
def AllModelsUptoSaid : Prop := allModelsUptoRow.holds Try.pinned (OpenSpec.upto allModelsSpec)

/-- 'umpiragelaw4.AllOntos', WHERE WHAT IT READS IS OF BULK AT MOST 1048576: true; the input reads as it did. -/
def allOntosUptoRow : OpenClaim := { program := "ytmpnbklgbehplaa", sum := "4de8ff4cdd008e07677b00007e4eb8664ad5c620bb27b4b41104e104dacff12d", func := "umpirage/umpiragelaw4.AllOntos", spec := "allOntos", unfollowed := true, recurses := true, apart := false, narrowed := true }
def AllOntosUptoSaid : Prop := allOntosUptoRow.holds Try.pinned (OpenSpec.upto allOntosSpec)

/-- 'umpiragelaw4.AllFew', WHERE WHAT IT READS IS OF BULK AT MOST 1048576: true; the input reads as it did. -/
def allFewUptoRow : OpenClaim := { program := "ytmpnbklgbehplaa", sum := "4de8ff4cdd008e07677b00007e4eb8664ad5c620bb27b4b41104e104dacff12d", func := "umpirage/umpiragelaw4.AllFew", spec := "allFew", unfollowed := true, recurses := true, apart := false, narrowed := true }
def AllFewUptoSaid : Prop := allFewUptoRow.holds Try.pinned (OpenSpec.upto allFewSpec)

/-- 'umpiragelaw4.ParSums', WHERE WHAT IT READS IS OF BULK AT MOST 1048576: true; the input reads as it did. -/
def parSumsUptoRow : OpenClaim := { program := "ytmpnbklgbehplaa", sum := "4de8ff4cdd008e07677b00007e4eb8664ad5c620bb27b4b41104e104dacff12d", func := "umpirage/umpiragelaw4.ParSums", spec := "parSums", recurses := true, apart := false, narrowed := true }
def ParSumsUptoSaid : Prop := parSumsUptoRow.holds Try.pinned (OpenSpec.upto parSumsSpec)

/-- 'umpiragelaw4.ParGroup', WHERE WHAT IT READS IS OF BULK AT MOST 1048576: true; the input reads as it did. -/
def parGroupUptoRow : OpenClaim := { program := "ytmpnbklgbehplaa", sum := "4de8ff4cdd008e07677b00007e4eb8664ad5c620bb27b4b41104e104dacff12d", func := "umpirage/umpiragelaw4.ParGroup", spec := "parGroup", recurses := true, apart := false, narrowed := true }
def ParGroupUptoSaid : Prop := parGroupUptoRow.holds Try.pinned (OpenSpec.upto parGroupSpec)

/-- 'umpiragelaw4.WalkDoes', WHERE WHAT IT READS IS OF BULK AT MOST 1048576: true; the input reads as it did. -/
def walkDoesUptoRow : OpenClaim := { program := "ytmpnbklgbehplaa", sum := "4de8ff4cdd008e07677b00007e4eb8664ad5c620bb27b4b41104e104dacff12d", func := "umpirage/umpiragelaw4.WalkDoes", spec := "walkDoes", unfollowed := true, recurses := true, apart := false, narrowed := true }
def WalkDoesUptoSaid : Prop := walkDoesUptoRow.holds Try.pinned (OpenSpec.upto walkDoesSpec)

/-- 'umpiragelaw4.WalkStops', WHERE WHAT IT READS IS OF BULK AT MOST 1048576: true; the input reads as it did. -/
def walkStopsUptoRow : OpenClaim := { program := "ytmpnbklgbehplaa", sum := "4de8ff4cdd008e07677b00007e4eb8664ad5c620bb27b4b41104e104dacff12d", func := "umpirage/umpiragelaw4.WalkStops", spec := "walkStops", unfollowed := true, recurses := true, apart := false, narrowed := true }
def WalkStopsUptoSaid : Prop := walkStopsUptoRow.holds Try.pinned (OpenSpec.upto walkStopsSpec)

/-- 'umpiragelaw4.ParCnfs', WHERE WHAT IT READS IS OF BULK AT MOST 1048576: true; the input reads as it did. -/
def parCnfsUptoRow : OpenClaim := { program := "ytmpnbklgbehplaa", sum := "4de8ff4cdd008e07677b00007e4eb8664ad5c620bb27b4b41104e104dacff12d", func := "umpirage/umpiragelaw4.ParCnfs", spec := "parCnfs", unfollowed := true, recurses := true, apart := false, narrowed := true }
def ParCnfsUptoSaid : Prop := parCnfsUptoRow.holds Try.pinned (OpenSpec.upto parCnfsSpec)

/-- 'umpiragelaw4.FewCores', WHERE WHAT IT READS IS OF BULK AT MOST 1048576: true; the input reads as it did. -/
def fewCoresUptoRow : OpenClaim := { program := "ytmpnbklgbehplaa", sum := "4de8ff4cdd008e07677b00007e4eb8664ad5c620bb27b4b41104e104dacff12d", func := "umpirage/umpiragelaw4.FewCores", spec := "fewCores", unfollowed := true, recurses := true, apart := false, narrowed := true }
def FewCoresUptoSaid : Prop := fewCoresUptoRow.holds Try.pinned (OpenSpec.upto fewCoresSpec)

end Rows
end Go.Proofs.Ytmpnbklgbehplaa
