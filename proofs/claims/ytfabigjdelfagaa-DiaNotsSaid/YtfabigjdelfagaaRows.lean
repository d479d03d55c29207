/-
  No cell of these rows narrows 'for every input' (looked for: loops, veiled, ifaces, maps, wideKeys, modest, calm, conditions, laid).
  DERIVED. THE GIVEN ROWS OF THIS SEAT. 12 by the template 'for every input the law returns true; each argument reads behind the call as it read before'; 0 by the template 'total and deterministic' (their statements: YtfabigjdelfagaaTotals.lean).
  GIVEN WITH THE SEED: the statements are not yours to turn. If you find one false, say at which input.
  Laid BY PROGRAM, IN A SANDBOX (cutbox-rows.mjs): the forced cells as the released guide's own fill.sh prints them over the translation d6d37d20de97b60f… (all of the seat's roots in one cut). By AI agents, Wed Nov 11 2026. No macro, syntax, notation, axiom, sorry.
-/
import Derived.Test.YtfabigjdelfagaaChecked
import GoSem.Claim
import GoSem.ClaimJoined
import GoSem.ClaimMapViews
import Derived.JoinedTies
import Derived.KernelRfl
namespace Go.Proofs.Ytfabigjdelfagaa
/- THE CELL 'sum', in the pinned program and in every row, IS THE sha256 OF THE DUMP (.gsa) THAT YtfabigjdelfagaaProg.lean LOADS. Nothing in Lean hashes anything: it is a label: what it is worth is what the hold of that sum in a sandbox is worth. -/
noncomputable def Try.pinned : Pinned := { name := "ytfabigjdelfagaa", sum := "d6d37d20de97b60feb347372c9daadcb7b6e3c55af4e1bc8e6bc31b2a27f96fe", checked := Try.checked }
namespace Rows
def none {H : Type} : Left H := { results := [], args := [] }

/-- 'umpiragelaw4.AllModels': WHATEVER THE INPUT: true; the input reads as it did. -/
def allModelsSpec : ChangeSpec := { name := "allModels", fn := fun _ => fun
  | [d1, d2] => { results := [.lit (.bool true)], args := [d1, d2] }
  | _ => none }
def allModelsRow : OpenClaim := { program := "ytfabigjdelfagaa", sum := "d6d37d20de97b60feb347372c9daadcb7b6e3c55af4e1bc8e6bc31b2a27f96fe", func := "umpirage/umpiragelaw4.AllModels", spec := "allModels", unfollowed := true, recurses := true, plainKeys := false, apart := false }
def AllModelsSaid : Prop := allModelsRow.holds Try.pinned (OpenSpec.ofChange allModelsSpec)

/-- ITS FALSE NEIGHBOUR: 'it returns false'. Refute it at one input. -/
def allModelsWrong : ChangeSpec := { name := "allModels", fn := fun _ => fun
  | [d1, d2] => { results := [.lit (.bool false)], args := [d1, d2] }
  | _ => none }
def AllModelsWrongFalsely : Prop := allModelsRow.holds Try.pinned (OpenSpec.ofChange allModelsWrong)

/-- 'umpiragelaw4.DiaOfs': WHATEVER THE INPUT: true; the input reads as it did. -/
def diaOfsSpec : ChangeSpec := { name := "diaOfs", fn := fun _ => fun
  | [d] => { results := [.lit (.bool true)], args := [d] }
  | _ => none }
def diaOfsRow : OpenClaim := { program := "ytfabigjdelfagaa", sum := "d6d37d20de97b60feb347372c9daadcb7b6e3c55af4e1bc8e6bc31b2a27f96fe", func := "umpirage/umpiragelaw4.DiaOfs", spec := "diaOfs", unfollowed := true, recurses := true, plainKeys := false, apart := false }
def DiaOfsSaid : Prop := diaOfsRow.holds Try.pinned (OpenSpec.ofChange diaOfsSpec)

/-- ITS FALSE NEIGHBOUR: 'it returns false'. Refute it at one input. -/
def diaOfsWrong : ChangeSpec := { name := "diaOfs", fn := fun _ => fun
  | [d] => { results := [.lit (.bool false)], args := [d] }
  | _ => none }
def DiaOfsWrongFalsely : Prop := diaOfsRow.holds Try.pinned (OpenSpec.ofChange diaOfsWrong)

/-- 'umpiragelaw4.DiaOne': WHATEVER THE INPUT: true; the input reads as it did. -/
def diaOneSpec : ChangeSpec := { name := "diaOne", fn := fun _ => fun
  | [d1, d2] => { results := [.lit (.bool true)], args := [d1, d2] }
  | _ => none }
def diaOneRow : OpenClaim := { program := "ytfabigjdelfagaa", sum := "d6d37d20de97b60feb347372c9daadcb7b6e3c55af4e1bc8e6bc31b2a27f96fe", func := "umpirage/umpiragelaw4.DiaOne", spec := "diaOne", unfollowed := true, recurses := true, plainKeys := false, apart := false }
def DiaOneSaid : Prop := diaOneRow.holds Try.pinned (OpenSpec.ofChange diaOneSpec)

/-- ITS FALSE NEIGHBOUR: 'it returns false'. Refute it at one input. -/
def diaOneWrong : ChangeSpec := { name := "diaOne", fn := fun _ => fun
  | [d1, d2] => { results := [.lit (.bool false)], args := [d1, d2] }
  | _ => none }
def DiaOneWrongFalsely : Prop := diaOneRow.holds Try.pinned (OpenSpec.ofChange diaOneWrong)

/-- 'umpiragelaw4.AllOntos': WHATEVER THE INPUT: true; the input reads as it did. -/
def allOntosSpec : ChangeSpec := { name := "allOntos", fn := fun _ => fun
  | [d1, d2] => { results := [.lit (.bool true)], args := [d1, d2] }
  | _ => none }
def allOntosRow : OpenClaim := { program := "ytfabigjdelfagaa", sum := "d6d37d20de97b60feb347372c9daadcb7b6e3c55af4e1bc8e6bc31b2a27f96fe", func := "umpirage/umpiragelaw4.AllOntos", spec := "allOntos", unfollowed := true, recurses := true, plainKeys := false, apart := false }
def AllOntosSaid : Prop := allOntosRow.holds Try.pinned (OpenSpec.ofChange allOntosSpec)

/-- ITS FALSE NEIGHBOUR: 'it returns false'. Refute it at one input. -/
def allOntosWrong : ChangeSpec := { name := "allOntos", fn := fun _ => fun
  | [d1, d2] => { results := [.lit (.bool false)], args := [d1, d2] }
  | _ => none }
def AllOntosWrongFalsely : Prop := allOntosRow.holds Try.pinned (OpenSpec.ofChange allOntosWrong)

/-- 'umpiragelaw4.AllFew': WHATEVER THE INPUT: true; the input reads as it did. -/
def allFewSpec : ChangeSpec := { name := "allFew", fn := fun _ => fun
  | [d1, d2] => { results := [.lit (.bool true)], args := [d1, d2] }
  | _ => none }
def allFewRow : OpenClaim := { program := "ytfabigjdelfagaa", sum := "d6d37d20de97b60feb347372c9daadcb7b6e3c55af4e1bc8e6bc31b2a27f96fe", func := "umpirage/umpiragelaw4.AllFew", spec := "allFew", unfollowed := true, recurses := true, plainKeys := false, apart := false }
def AllFewSaid : Prop := allFewRow.holds Try.pinned (OpenSpec.ofChange allFewSpec)

/-- ITS FALSE NEIGHBOUR: 'it returns false'. Refute it at one input. -/
def allFewWrong : ChangeSpec := { name := "allFew", fn := fun _ => fun
  | [d1, d2] => { results := [.lit (.bool false)], args := [d1, d2] }
  | _ => none }
def AllFewWrongFalsely : Prop := allFewRow.holds Try.pinned (OpenSpec.ofChange allFewWrong)

/-- 'umpiragelaw4.DiaNots': WHATEVER THE INPUT: true; the input reads as it did. -/
def diaNotsSpec : ChangeSpec := { name := "diaNots", fn := fun _ => fun
  | [d1, d2] => { results := [.lit (.bool true)], args := [d1, d2] }
  | _ => none }
def diaNotsRow : OpenClaim := { program := "ytfabigjdelfagaa", sum := "d6d37d20de97b60feb347372c9daadcb7b6e3c55af4e1bc8e6bc31b2a27f96fe", func := "umpirage/umpiragelaw4.DiaNots", spec := "diaNots", unfollowed := true, recurses := true, plainKeys := false, apart := false }
def DiaNotsSaid : Prop := diaNotsRow.holds Try.pinned (OpenSpec.ofChange diaNotsSpec)

/-- ITS FALSE NEIGHBOUR: 'it returns false'. Refute it at one input. -/
def diaNotsWrong : ChangeSpec := { name := "diaNots", fn := fun _ => fun
  | [d1, d2] => { results := [.lit (.bool false)], args := [d1, d2] }
  | _ => none }
def DiaNotsWrongFalsely : Prop := diaNotsRow.holds Try.pinned (OpenSpec.ofChange diaNotsWrong)

/-- 'umpiragelaw4.DiaSomes': WHATEVER THE INPUT: true; the input reads as it did. -/
def diaSomesSpec : ChangeSpec := { name := "diaSomes", fn := fun _ => fun
  | [d1, d2, d3] => { results := [.lit (.bool true)], args := [d1, d2, d3] }
  | _ => none }
def diaSomesRow : OpenClaim := { program := "ytfabigjdelfagaa", sum := "d6d37d20de97b60feb347372c9daadcb7b6e3c55af4e1bc8e6bc31b2a27f96fe", func := "umpirage/umpiragelaw4.DiaSomes", spec := "diaSomes", unfollowed := true, recurses := true, plainKeys := false, apart := false }
def DiaSomesSaid : Prop := diaSomesRow.holds Try.pinned (OpenSpec.ofChange diaSomesSpec)

/-- ITS FALSE NEIGHBOUR: 'it returns false'. Refute it at one input. -/
def diaSomesWrong : ChangeSpec := { name := "diaSomes", fn := fun _ => fun
  | [d1, d2, d3] => { results := [.lit (.bool false)], args := [d1, d2, d3] }
  | _ => none }
def DiaSomesWrongFalsely : Prop := diaSomesRow.holds Try.pinned (OpenSpec.ofChange diaSomesWrong)

/-- 'umpiragelaw4.DiaBoths': WHATEVER THE INPUT: true; the input reads as it did. -/
def diaBothsSpec : ChangeSpec := { name := "diaBoths", fn := fun _ => fun
  | [d1, d2, d3, d4] => { results := [.lit (.bool true)], args := [d1, d2, d3, d4] }
  | _ => none }
def diaBothsRow : OpenClaim := { program := "ytfabigjdelfagaa", sum := "d6d37d20de97b60feb347372c9daadcb7b6e3c55af4e1bc8e6bc31b2a27f96fe", func := "umpirage/umpiragelaw4.DiaBoths", spec := "diaBoths", unfollowed := true, recurses := true, plainKeys := false, apart := false }
def DiaBothsSaid : Prop := diaBothsRow.holds Try.pinned (OpenSpec.ofChange diaBothsSpec)

/-- ITS FALSE NEIGHBOUR: 'it returns false'. Refute it at one input. -/
def diaBothsWrong : ChangeSpec := { name := "diaBoths", fn := fun _ => fun
  | [d1, d2, d3, d4] => { results := [.lit (.bool false)], args := [d1, d2, d3, d4] }
  | _ => none }
def DiaBothsWrongFalsely : Prop := diaBothsRow.holds Try.pinned (OpenSpec.ofChange diaBothsWrong)

/-- 'umpiragelaw4.DiaPicked': WHATEVER THE INPUT: true; the input reads as it did. -/
def diaPickedSpec : ChangeSpec := { name := "diaPicked", fn := fun _ => fun
  | [d1, d2, d3, d4] => { results := [.lit (.bool true)], args := [d1, d2, d3, d4] }
  | _ => none }
def diaPickedRow : OpenClaim := { program := "ytfabigjdelfagaa", sum := "d6d37d20de97b60feb347372c9daadcb7b6e3c55af4e1bc8e6bc31b2a27f96fe", func := "umpirage/umpiragelaw4.DiaPicked", spec := "diaPicked", unfollowed := true, recurses := true, plainKeys := false, apart := false }
def DiaPickedSaid : Prop := diaPickedRow.holds Try.pinned (OpenSpec.ofChange diaPickedSpec)

/-- ITS FALSE NEIGHBOUR: 'it returns false'. Refute it at one input. -/
def diaPickedWrong : ChangeSpec := { name := "diaPicked", fn := fun _ => fun
  | [d1, d2, d3, d4] => { results := [.lit (.bool false)], args := [d1, d2, d3, d4] }
  | _ => none }
def DiaPickedWrongFalsely : Prop := diaPickedRow.holds Try.pinned (OpenSpec.ofChange diaPickedWrong)

/-- 'umpiragelaw4.DiaQuant': WHATEVER THE INPUT: true; the input reads as it did. -/
def diaQuantSpec : ChangeSpec := { name := "diaQuant", fn := fun _ => fun
  | [d1, d2, d3, d4] => { results := [.lit (.bool true)], args := [d1, d2, d3, d4] }
  | _ => none }
def diaQuantRow : OpenClaim := { program := "ytfabigjdelfagaa", sum := "d6d37d20de97b60feb347372c9daadcb7b6e3c55af4e1bc8e6bc31b2a27f96fe", func := "umpirage/umpiragelaw4.DiaQuant", spec := "diaQuant", unfollowed := true, recurses := true, plainKeys := false, apart := false }
def DiaQuantSaid : Prop := diaQuantRow.holds Try.pinned (OpenSpec.ofChange diaQuantSpec)

/-- ITS FALSE NEIGHBOUR: 'it returns false'. Refute it at one input. -/
def diaQuantWrong : ChangeSpec := { name := "diaQuant", fn := fun _ => fun
  | [d1, d2, d3, d4] => { results := [.lit (.bool false)], args := [d1, d2, d3, d4] }
  | _ => none }
def DiaQuantWrongFalsely : Prop := diaQuantRow.holds Try.pinned (OpenSpec.ofChange diaQuantWrong)

/-- 'umpiragelaw4.DiaMorgan': WHATEVER THE INPUT: true; the input reads as it did. -/
def diaMorganSpec : ChangeSpec := { name := "diaMorgan", fn := fun _ => fun
  | [d1, d2, d3] => { results := [.lit (.bool true)], args := [d1, d2, d3] }
  | _ => none }
def diaMorganRow : OpenClaim := { program := "ytfabigjdelfagaa", sum := "d6d37d20de97b60feb347372c9daadcb7b6e3c55af4e1bc8e6bc31b2a27f96fe", func := "umpirage/umpiragelaw4.DiaMorgan", spec := "diaMorgan", unfollowed := true, recurses := true, plainKeys := false, apart := false }
def DiaMorganSaid : Prop := diaMorganRow.holds Try.pinned (OpenSpec.ofChange diaMorganSpec)

/-- ITS FALSE NEIGHBOUR: 'it returns false'. Refute it at one input. -/
def diaMorganWrong : ChangeSpec := { name := "diaMorgan", fn := fun _ => fun
  | [d1, d2, d3] => { results := [.lit (.bool false)], args := [d1, d2, d3] }
  | _ => none }
def DiaMorganWrongFalsely : Prop := diaMorganRow.holds Try.pinned (OpenSpec.ofChange diaMorganWrong)

/-- 'umpiragelaw4.ParSums': WHATEVER THE INPUT: true; the input reads as it did. -/
def parSumsSpec : ChangeSpec := { name := "parSums", fn := fun _ => fun
  | [d1, d2, d3] => { results := [.lit (.bool true)], args := [d1, d2, d3] }
  | _ => none }
def parSumsRow : OpenClaim := { program := "ytfabigjdelfagaa", sum := "d6d37d20de97b60feb347372c9daadcb7b6e3c55af4e1bc8e6bc31b2a27f96fe", func := "umpirage/umpiragelaw4.ParSums", spec := "parSums", recurses := true, plainKeys := false, apart := false }
def ParSumsSaid : Prop := parSumsRow.holds Try.pinned (OpenSpec.ofChange parSumsSpec)

/-- ITS FALSE NEIGHBOUR: 'it returns false'. Refute it at one input. -/
def parSumsWrong : ChangeSpec := { name := "parSums", fn := fun _ => fun
  | [d1, d2, d3] => { results := [.lit (.bool false)], args := [d1, d2, d3] }
  | _ => none }
def ParSumsWrongFalsely : Prop := parSumsRow.holds Try.pinned (OpenSpec.ofChange parSumsWrong)

/- THE SECOND FORM. 'bulk': how many values and letters a reading holds, each counted each time it is reached (what is shared counts as often as it is met; a slice's spare places count too). A statement '..UptoSaid' is the law's where the arguments, and the package variables that the reading takes, are together of bulk at most 1048576: NARROWER than '..Said'. Prove '..Said' where nothing that the law and all that it calls make is longer than what came in: it says more and counts as full. Else prove '..UptoSaid'. A law counts once. -/
mutual
def uptoBulk {H : Type} : DataW H → Nat
  | .lit (.string bytes) => bytes.length + 1
  | .lit _ => 1
  | .nil => 1
  | .ptr d => uptoBulk d + 1
  | .slice elems spare => uptoBulkAll elems + uptoBulkAll spare + 1
  | .agg parts => uptoBulkAll parts + 1
  | .iface _ d => uptoBulk d + 1
  | .map entries => uptoBulkEntries entries + 1
  | .held _ => 1
def uptoBulkAll {H : Type} : List (DataW H) → Nat
  | [] => 0
  | d :: r => uptoBulk d + uptoBulkAll r
def uptoBulkEntries {H : Type} : List (Lit × DataW H) → Nat
  | [] => 0
  | x :: r => uptoBulkEntry x + uptoBulkEntries r
def uptoBulkEntry {H : Type} : Lit × DataW H → Nat
  | (.string bytes, d) => bytes.length + uptoBulk d + 1
  | (_, d) => uptoBulk d + 1
 end
def uptoSmall : (H : Type) → List (DataW H) → Bool := fun _ ds => decide (uptoBulkAll ds ≤ 1048576)
def OpenSpec.upto (s : _root_.Go.ChangeSpec) : _root_.Go.OpenSpec := { _root_.Go.OpenSpec.ofChange s with cond := some uptoSmall }

/-- 'umpiragelaw4.AllModels', WHERE WHAT IT READS IS OF BULK AT MOST 1048576: true; the input reads as it did. -/
def allModelsUptoRow : OpenClaim := { program := "ytfabigjdelfagaa", sum := "d6d37d20de97b60feb347372c9daadcb7b6e3c55af4e1bc8e6bc31b2a27f96fe", func := "umpirage/umpiragelaw4.AllModels", spec := "allModels", unfollowed := true, recurses := true, plainKeys := false, apart := false, narrowed := true }
def AllModelsUptoSaid : Prop := allModelsUptoRow.holds Try.pinned (OpenSpec.upto allModelsSpec)

/-- 'umpiragelaw4.DiaOfs', WHERE WHAT IT READS IS OF BULK AT MOST 1048576: true; the input reads as it did. -/
def diaOfsUptoRow : OpenClaim := { program := "ytfabigjdelfagaa", sum := "d6d37d20de97b60feb347372c9daadcb7b6e3c55af4e1bc8e6bc31b2a27f96fe", func := "umpirage/umpiragelaw4.DiaOfs", spec := "diaOfs", unfollowed := true, recurses := true, plainKeys := false, apart := false, narrowed := true }
def DiaOfsUptoSaid : Prop := diaOfsUptoRow.holds Try.pinned (OpenSpec.upto diaOfsSpec)

/-- 'umpiragelaw4.DiaOne', WHERE WHAT IT READS IS OF BULK AT MOST 1048576: true; the input reads as it did. -/
def diaOneUptoRow : OpenClaim := { program := "ytfabigjdelfagaa", sum := "d6d37d20de97b60feb347372c9daadcb7b6e3c55af4e1bc8e6bc31b2a27f96fe", func := "umpirage/umpiragelaw4.DiaOne", spec := "diaOne", unfollowed := true, recurses := true, plainKeys := false, apart := false, narrowed := true }
def DiaOneUptoSaid : Prop := diaOneUptoRow.holds Try.pinned (OpenSpec.upto diaOneSpec)

/-- 'umpiragelaw4.AllOntos', WHERE WHAT IT READS IS OF BULK AT MOST 1048576: true; the input reads as it did. -/
def allOntosUptoRow : OpenClaim := { program := "ytfabigjdelfagaa", sum := "d6d37d20de97b60feb347372c9daadcb7b6e3c55af4e1bc8e6bc31b2a27f96fe", func := "umpirage/umpiragelaw4.AllOntos", spec := "allOntos", unfollowed := true, recurses := true, plainKeys := false, apart := false, narrowed := true }
def AllOntosUptoSaid : Prop := allOntosUptoRow.holds Try.pinned (OpenSpec.upto allOntosSpec)

/-- 'umpiragelaw4.AllFew', WHERE WHAT IT READS IS OF BULK AT MOST 1048576: true; the input reads as it did. -/
def allFewUptoRow : OpenClaim := { program := "ytfabigjdelfagaa", sum := "d6d37d20de97b60feb347372c9daadcb7b6e3c55af4e1bc8e6bc31b2a27f96fe", func := "umpirage/umpiragelaw4.AllFew", spec := "allFew", unfollowed := true, recurses := true, plainKeys := false, apart := false, narrowed := true }
def AllFewUptoSaid : Prop := allFewUptoRow.holds Try.pinned (OpenSpec.upto allFewSpec)

/-- 'umpiragelaw4.DiaNots', WHERE WHAT IT READS IS OF BULK AT MOST 1048576: true; the input reads as it did. -/
def diaNotsUptoRow : OpenClaim := { program := "ytfabigjdelfagaa", sum := "d6d37d20de97b60feb347372c9daadcb7b6e3c55af4e1bc8e6bc31b2a27f96fe", func := "umpirage/umpiragelaw4.DiaNots", spec := "diaNots", unfollowed := true, recurses := true, plainKeys := false, apart := false, narrowed := true }
def DiaNotsUptoSaid : Prop := diaNotsUptoRow.holds Try.pinned (OpenSpec.upto diaNotsSpec)

/-- 'umpiragelaw4.DiaSomes', WHERE WHAT IT READS IS OF BULK AT MOST 1048576: true; the input reads as it did. -/
def diaSomesUptoRow : OpenClaim := { program := "ytfabigjdelfagaa", sum := "d6d37d20de97b60feb347372c9daadcb7b6e3c55af4e1bc8e6bc31b2a27f96fe", func := "umpirage/umpiragelaw4.DiaSomes", spec := "diaSomes", unfollowed := true, recurses := true, plainKeys := false, apart := false, narrowed := true }
def DiaSomesUptoSaid : Prop := diaSomesUptoRow.holds Try.pinned (OpenSpec.upto diaSomesSpec)

/-- 'umpiragelaw4.DiaBoths', WHERE WHAT IT READS IS OF BULK AT MOST 1048576: true; the input reads as it did. -/
def diaBothsUptoRow : OpenClaim := { program := "ytfabigjdelfagaa", sum := "d6d37d20de97b60feb347372c9daadcb7b6e3c55af4e1bc8e6bc31b2a27f96fe", func := "umpirage/umpiragelaw4.DiaBoths", spec := "diaBoths", unfollowed := true, recurses := true, plainKeys := false, apart := false, narrowed := true }
def DiaBothsUptoSaid : Prop := diaBothsUptoRow.holds Try.pinned (OpenSpec.upto diaBothsSpec)

/-- 'umpiragelaw4.DiaPicked', WHERE WHAT IT READS IS OF BULK AT MOST 1048576: true; the input reads as it did. -/
def diaPickedUptoRow : OpenClaim := { program := "ytfabigjdelfagaa", sum := "d6d37d20de97b60feb347372c9daadcb7b6e3c55af4e1bc8e6bc31b2a27f96fe", func := "umpirage/umpiragelaw4.DiaPicked", spec := "diaPicked", unfollowed := true, recurses := true, plainKeys := false, apart := false, narrowed := true }
def DiaPickedUptoSaid : Prop := diaPickedUptoRow.holds Try.pinned (OpenSpec.upto diaPickedSpec)

/-- 'umpiragelaw4.DiaQuant', WHERE WHAT IT READS IS OF BULK AT MOST 1048576: true; the input reads as it did. -/
def diaQuantUptoRow : OpenClaim := { program := "ytfabigjdelfagaa", sum := "d6d37d20de97b60feb347372c9daadcb7b6e3c55af4e1bc8e6bc31b2a27f96fe", func := "umpirage/umpiragelaw4.DiaQuant", spec := "diaQuant", unfollowed := true, recurses := true, plainKeys := false, apart := false, narrowed := true }
def DiaQuantUptoSaid : Prop := diaQuantUptoRow.holds Try.pinned (OpenSpec.upto diaQuantSpec)

/-- 'umpiragelaw4.DiaMorgan', WHERE WHAT IT READS IS OF BULK AT MOST 1048576: true; the input reads as it did. -/
def diaMorganUptoRow : OpenClaim := { program := "ytfabigjdelfagaa", sum := "d6d37d20de97b60feb347372c9daadcb7b6e3c55af4e1bc8e6bc31b2a27f96fe", func := "umpirage/umpiragelaw4.DiaMorgan", spec := "diaMorgan", unfollowed := true, recurses := true, plainKeys := false, apart := false, narrowed := true }
def DiaMorganUptoSaid : Prop := diaMorganUptoRow.holds Try.pinned (OpenSpec.upto diaMorganSpec)

/-- 'umpiragelaw4.ParSums', WHERE WHAT IT READS IS OF BULK AT MOST 1048576: true; the input reads as it did. -/
def parSumsUptoRow : OpenClaim := { program := "ytfabigjdelfagaa", sum := "d6d37d20de97b60feb347372c9daadcb7b6e3c55af4e1bc8e6bc31b2a27f96fe", func := "umpirage/umpiragelaw4.ParSums", spec := "parSums", recurses := true, plainKeys := false, apart := false, narrowed := true }
def ParSumsUptoSaid : Prop := parSumsUptoRow.holds Try.pinned (OpenSpec.upto parSumsSpec)

end Rows
end Go.Proofs.Ytfabigjdelfagaa
