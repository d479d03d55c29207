/-
  No cell of these rows narrows 'for every input' (looked for: loops, veiled, ifaces, maps, wideKeys, modest, calm, conditions, laid).
  DERIVED. THE GIVEN ROWS OF THIS SEAT. 12 by the template 'for every input the law returns true; each argument reads behind the call as it read before'; 0 by the template 'total and deterministic' (their statements: YtahphdchlaplaaaTotals.lean).
  GIVEN WITH THE SEED: the statements are not yours to turn. If you find one false, say at which input.
  Laid BY PROGRAM, IN A SANDBOX (cutbox-rows.mjs): the forced cells as the released guide's own fill.sh prints them over the translation 1ce50230c6079266… (all of the seat's roots in one cut). By AI agents, Wed Nov 11 2026. No macro, syntax, notation, axiom, sorry.
-/
import Derived.Test.YtahphdchlaplaaaChecked
import GoSem.Claim
import GoSem.ClaimJoined
import GoSem.ClaimMapViews
import Derived.JoinedTies
import Derived.KernelRfl
namespace Go.Proofs.Ytahphdchlaplaaa
/- THE CELL 'sum', in the pinned program and in every row, IS THE sha256 OF THE DUMP (.gsa) THAT YtahphdchlaplaaaProg.lean LOADS. Nothing in Lean hashes anything: it is a label: what it is worth is what the hold of that sum in a sandbox is worth. -/
noncomputable def Try.pinned : Pinned := { name := "ytahphdchlaplaaa", sum := "1ce50230c60792666f52edb578120539d5c58b751e2c72806625d88dfec82340", checked := Try.checked }
namespace Rows
def none {H : Type} : Left H := { results := [], args := [] }

/-- 'umpiragelaw4.SoftFaults': WHATEVER THE INPUT: true; the input reads as it did. -/
def softFaultsSpec : ChangeSpec := { name := "softFaults", fn := fun _ => fun
  | [d1, d2, d3, d4] => { results := [.lit (.bool true)], args := [d1, d2, d3, d4] }
  | _ => none }
def softFaultsRow : OpenClaim := { program := "ytahphdchlaplaaa", sum := "1ce50230c60792666f52edb578120539d5c58b751e2c72806625d88dfec82340", func := "umpirage/umpiragelaw4.SoftFaults", spec := "softFaults", unfollowed := true, recurses := true, apart := false }
def SoftFaultsSaid : Prop := softFaultsRow.holds Try.pinned (OpenSpec.ofChange softFaultsSpec)

/-- ITS FALSE NEIGHBOUR: 'it returns false'. Refute it at one input. -/
def softFaultsWrong : ChangeSpec := { name := "softFaults", fn := fun _ => fun
  | [d1, d2, d3, d4] => { results := [.lit (.bool false)], args := [d1, d2, d3, d4] }
  | _ => none }
def SoftFaultsWrongFalsely : Prop := softFaultsRow.holds Try.pinned (OpenSpec.ofChange softFaultsWrong)

/-- 'umpiragelaw4.SoftLeast': WHATEVER THE INPUT: true; the input reads as it did. -/
def softLeastSpec : ChangeSpec := { name := "softLeast", fn := fun _ => fun
  | [d1, d2, d3] => { results := [.lit (.bool true)], args := [d1, d2, d3] }
  | _ => none }
def softLeastRow : OpenClaim := { program := "ytahphdchlaplaaa", sum := "1ce50230c60792666f52edb578120539d5c58b751e2c72806625d88dfec82340", func := "umpirage/umpiragelaw4.SoftLeast", spec := "softLeast", unfollowed := true, recurses := true, apart := false }
def SoftLeastSaid : Prop := softLeastRow.holds Try.pinned (OpenSpec.ofChange softLeastSpec)

/-- ITS FALSE NEIGHBOUR: 'it returns false'. Refute it at one input. -/
def softLeastWrong : ChangeSpec := { name := "softLeast", fn := fun _ => fun
  | [d1, d2, d3] => { results := [.lit (.bool false)], args := [d1, d2, d3] }
  | _ => none }
def SoftLeastWrongFalsely : Prop := softLeastRow.holds Try.pinned (OpenSpec.ofChange softLeastWrong)

/-- 'umpiragelaw4.SoftAnswers': WHATEVER THE INPUT: true; the input reads as it did. -/
def softAnswersSpec : ChangeSpec := { name := "softAnswers", fn := fun _ => fun
  | [d1, d2, d3, d4] => { results := [.lit (.bool true)], args := [d1, d2, d3, d4] }
  | _ => none }
def softAnswersRow : OpenClaim := { program := "ytahphdchlaplaaa", sum := "1ce50230c60792666f52edb578120539d5c58b751e2c72806625d88dfec82340", func := "umpirage/umpiragelaw4.SoftAnswers", spec := "softAnswers", unfollowed := true, recurses := true, apart := false }
def SoftAnswersSaid : Prop := softAnswersRow.holds Try.pinned (OpenSpec.ofChange softAnswersSpec)

/-- ITS FALSE NEIGHBOUR: 'it returns false'. Refute it at one input. -/
def softAnswersWrong : ChangeSpec := { name := "softAnswers", fn := fun _ => fun
  | [d1, d2, d3, d4] => { results := [.lit (.bool false)], args := [d1, d2, d3, d4] }
  | _ => none }
def SoftAnswersWrongFalsely : Prop := softAnswersRow.holds Try.pinned (OpenSpec.ofChange softAnswersWrong)

/-- 'umpiragelaw4.SoftMore': WHATEVER THE INPUT: true; the input reads as it did. -/
def softMoreSpec : ChangeSpec := { name := "softMore", fn := fun _ => fun
  | [d1, d2, d3, d4, d5] => { results := [.lit (.bool true)], args := [d1, d2, d3, d4, d5] }
  | _ => none }
def softMoreRow : OpenClaim := { program := "ytahphdchlaplaaa", sum := "1ce50230c60792666f52edb578120539d5c58b751e2c72806625d88dfec82340", func := "umpirage/umpiragelaw4.SoftMore", spec := "softMore", unfollowed := true, recurses := true, apart := false }
def SoftMoreSaid : Prop := softMoreRow.holds Try.pinned (OpenSpec.ofChange softMoreSpec)

/-- ITS FALSE NEIGHBOUR: 'it returns false'. Refute it at one input. -/
def softMoreWrong : ChangeSpec := { name := "softMore", fn := fun _ => fun
  | [d1, d2, d3, d4, d5] => { results := [.lit (.bool false)], args := [d1, d2, d3, d4, d5] }
  | _ => none }
def SoftMoreWrongFalsely : Prop := softMoreRow.holds Try.pinned (OpenSpec.ofChange softMoreWrong)

/-- 'umpiragelaw4.FewMends': WHATEVER THE INPUT: true; the input reads as it did. -/
def fewMendsSpec : ChangeSpec := { name := "fewMends", fn := fun _ => fun
  | [d] => { results := [.lit (.bool true)], args := [d] }
  | _ => none }
def fewMendsRow : OpenClaim := { program := "ytahphdchlaplaaa", sum := "1ce50230c60792666f52edb578120539d5c58b751e2c72806625d88dfec82340", func := "umpirage/umpiragelaw4.FewMends", spec := "fewMends", unfollowed := true, recurses := true, apart := false }
def FewMendsSaid : Prop := fewMendsRow.holds Try.pinned (OpenSpec.ofChange fewMendsSpec)

/-- ITS FALSE NEIGHBOUR: 'it returns false'. Refute it at one input. -/
def fewMendsWrong : ChangeSpec := { name := "fewMends", fn := fun _ => fun
  | [d] => { results := [.lit (.bool false)], args := [d] }
  | _ => none }
def FewMendsWrongFalsely : Prop := fewMendsRow.holds Try.pinned (OpenSpec.ofChange fewMendsWrong)

/-- 'umpiragelaw4.FewAlls': WHATEVER THE INPUT: true; the input reads as it did. -/
def fewAllsSpec : ChangeSpec := { name := "fewAlls", fn := fun _ => fun
  | [d] => { results := [.lit (.bool true)], args := [d] }
  | _ => none }
def fewAllsRow : OpenClaim := { program := "ytahphdchlaplaaa", sum := "1ce50230c60792666f52edb578120539d5c58b751e2c72806625d88dfec82340", func := "umpirage/umpiragelaw4.FewAlls", spec := "fewAlls", unfollowed := true, recurses := true, apart := false }
def FewAllsSaid : Prop := fewAllsRow.holds Try.pinned (OpenSpec.ofChange fewAllsSpec)

/-- ITS FALSE NEIGHBOUR: 'it returns false'. Refute it at one input. -/
def fewAllsWrong : ChangeSpec := { name := "fewAlls", fn := fun _ => fun
  | [d] => { results := [.lit (.bool false)], args := [d] }
  | _ => none }
def FewAllsWrongFalsely : Prop := fewAllsRow.holds Try.pinned (OpenSpec.ofChange fewAllsWrong)

/-- 'umpiragelaw4.FewHit': WHATEVER THE INPUT: true; the input reads as it did. -/
def fewHitSpec : ChangeSpec := { name := "fewHit", fn := fun _ => fun
  | [d] => { results := [.lit (.bool true)], args := [d] }
  | _ => none }
def fewHitRow : OpenClaim := { program := "ytahphdchlaplaaa", sum := "1ce50230c60792666f52edb578120539d5c58b751e2c72806625d88dfec82340", func := "umpirage/umpiragelaw4.FewHit", spec := "fewHit", unfollowed := true, recurses := true, apart := false }
def FewHitSaid : Prop := fewHitRow.holds Try.pinned (OpenSpec.ofChange fewHitSpec)

/-- ITS FALSE NEIGHBOUR: 'it returns false'. Refute it at one input. -/
def fewHitWrong : ChangeSpec := { name := "fewHit", fn := fun _ => fun
  | [d] => { results := [.lit (.bool false)], args := [d] }
  | _ => none }
def FewHitWrongFalsely : Prop := fewHitRow.holds Try.pinned (OpenSpec.ofChange fewHitWrong)

/-- 'umpiragelaw4.ParSolves': WHATEVER THE INPUT: true; the input reads as it did. -/
def parSolvesSpec : ChangeSpec := { name := "parSolves", fn := fun _ => fun
  | [d1, d2] => { results := [.lit (.bool true)], args := [d1, d2] }
  | _ => none }
def parSolvesRow : OpenClaim := { program := "ytahphdchlaplaaa", sum := "1ce50230c60792666f52edb578120539d5c58b751e2c72806625d88dfec82340", func := "umpirage/umpiragelaw4.ParSolves", spec := "parSolves", unfollowed := true, recurses := true, apart := false }
def ParSolvesSaid : Prop := parSolvesRow.holds Try.pinned (OpenSpec.ofChange parSolvesSpec)

/-- ITS FALSE NEIGHBOUR: 'it returns false'. Refute it at one input. -/
def parSolvesWrong : ChangeSpec := { name := "parSolves", fn := fun _ => fun
  | [d1, d2] => { results := [.lit (.bool false)], args := [d1, d2] }
  | _ => none }
def ParSolvesWrongFalsely : Prop := parSolvesRow.holds Try.pinned (OpenSpec.ofChange parSolvesWrong)

/-- 'umpiragelaw4.ParSolved': WHATEVER THE INPUT: true; the input reads as it did. -/
def parSolvedSpec : ChangeSpec := { name := "parSolved", fn := fun _ => fun
  | [d1, d2, d3] => { results := [.lit (.bool true)], args := [d1, d2, d3] }
  | _ => none }
def parSolvedRow : OpenClaim := { program := "ytahphdchlaplaaa", sum := "1ce50230c60792666f52edb578120539d5c58b751e2c72806625d88dfec82340", func := "umpirage/umpiragelaw4.ParSolved", spec := "parSolved", unfollowed := true, recurses := true, apart := false }
def ParSolvedSaid : Prop := parSolvedRow.holds Try.pinned (OpenSpec.ofChange parSolvedSpec)

/-- ITS FALSE NEIGHBOUR: 'it returns false'. Refute it at one input. -/
def parSolvedWrong : ChangeSpec := { name := "parSolved", fn := fun _ => fun
  | [d1, d2, d3] => { results := [.lit (.bool false)], args := [d1, d2, d3] }
  | _ => none }
def ParSolvedWrongFalsely : Prop := parSolvedRow.holds Try.pinned (OpenSpec.ofChange parSolvedWrong)

/-- 'umpiragelaw4.ParFinds': WHATEVER THE INPUT: true; the input reads as it did. -/
def parFindsSpec : ChangeSpec := { name := "parFinds", fn := fun _ => fun
  | [d] => { results := [.lit (.bool true)], args := [d] }
  | _ => none }
def parFindsRow : OpenClaim := { program := "ytahphdchlaplaaa", sum := "1ce50230c60792666f52edb578120539d5c58b751e2c72806625d88dfec82340", func := "umpirage/umpiragelaw4.ParFinds", spec := "parFinds", unfollowed := true, recurses := true, apart := false }
def ParFindsSaid : Prop := parFindsRow.holds Try.pinned (OpenSpec.ofChange parFindsSpec)

/-- ITS FALSE NEIGHBOUR: 'it returns false'. Refute it at one input. -/
def parFindsWrong : ChangeSpec := { name := "parFinds", fn := fun _ => fun
  | [d] => { results := [.lit (.bool false)], args := [d] }
  | _ => none }
def ParFindsWrongFalsely : Prop := parFindsRow.holds Try.pinned (OpenSpec.ofChange parFindsWrong)

/-- 'umpiragelaw4.ParBack': WHATEVER THE INPUT: true; the input reads as it did. -/
def parBackSpec : ChangeSpec := { name := "parBack", fn := fun _ => fun
  | [d1, d2, d3] => { results := [.lit (.bool true)], args := [d1, d2, d3] }
  | _ => none }
def parBackRow : OpenClaim := { program := "ytahphdchlaplaaa", sum := "1ce50230c60792666f52edb578120539d5c58b751e2c72806625d88dfec82340", func := "umpirage/umpiragelaw4.ParBack", spec := "parBack", unfollowed := true, recurses := true, apart := false }
def ParBackSaid : Prop := parBackRow.holds Try.pinned (OpenSpec.ofChange parBackSpec)

/-- ITS FALSE NEIGHBOUR: 'it returns false'. Refute it at one input. -/
def parBackWrong : ChangeSpec := { name := "parBack", fn := fun _ => fun
  | [d1, d2, d3] => { results := [.lit (.bool false)], args := [d1, d2, d3] }
  | _ => none }
def ParBackWrongFalsely : Prop := parBackRow.holds Try.pinned (OpenSpec.ofChange parBackWrong)

/-- 'umpiragelaw4.CdclFaults': WHATEVER THE INPUT: true; the input reads as it did. -/
def cdclFaultsSpec : ChangeSpec := { name := "cdclFaults", fn := fun _ => fun
  | [d1, d2, d3, d4] => { results := [.lit (.bool true)], args := [d1, d2, d3, d4] }
  | _ => none }
def cdclFaultsRow : OpenClaim := { program := "ytahphdchlaplaaa", sum := "1ce50230c60792666f52edb578120539d5c58b751e2c72806625d88dfec82340", func := "umpirage/umpiragelaw4.CdclFaults", spec := "cdclFaults", unfollowed := true, recurses := true, apart := false }
def CdclFaultsSaid : Prop := cdclFaultsRow.holds Try.pinned (OpenSpec.ofChange cdclFaultsSpec)

/-- ITS FALSE NEIGHBOUR: 'it returns false'. Refute it at one input. -/
def cdclFaultsWrong : ChangeSpec := { name := "cdclFaults", fn := fun _ => fun
  | [d1, d2, d3, d4] => { results := [.lit (.bool false)], args := [d1, d2, d3, d4] }
  | _ => none }
def CdclFaultsWrongFalsely : Prop := cdclFaultsRow.holds Try.pinned (OpenSpec.ofChange cdclFaultsWrong)

/- THE SECOND FORM. 'bulk': how many values and letters a reading holds, each counted each time it is reached (what is shared counts as often as it is met; a slice's spare places count too). A statement '..UptoSaid' is the law's where the arguments, and the package variables that the reading takes, are together of bulk at most 1048576: NARROWER than '..Said'. Prove '..Said' where nothing that the law and all that it calls make is longer than what came in: it says more and counts as full. Else prove '..UptoSaid'. A law counts once. -/
mutual
def uptoBulk {H : Type} : DataW H → Nat
  | .lit (.string bytes) => bytes.length + 1
  | .lit _ => 1
  | .nil => 1
  | .ptr d => uptoBulk d + 1
  | .slice elems spare => uptoBulkAll elems + uptoBulkAll spare + 1
  | .agg parts => uptoBulkAll parts + 1
  | .iface _ d => uptoBulk d + 1
  | .map entries => uptoBulkEntries entries + 1
  | .held _ => 1
def uptoBulkAll {H : Type} : List (DataW H) → Nat
  | [] => 0
  | d :: r => uptoBulk d + uptoBulkAll r
def uptoBulkEntries {H : Type} : List (Lit × DataW H) → Nat
  | [] => 0
  | x :: r => uptoBulkEntry x + uptoBulkEntries r
def uptoBulkEntry {H : Type} : Lit × DataW H → Nat
  | (.string bytes, d) => bytes.length + uptoBulk d + 1
  | (_, d) => uptoBulk d + 1
 end
def uptoSmall : (H : Type) → List (DataW H) → Bool := fun _ ds => decide (uptoBulkAll ds ≤ 1048576)
def OpenSpec.upto (s : _root_.Go.ChangeSpec) : _root_.Go.OpenSpec := { _root_.Go.OpenSpec.ofChange s with cond := some uptoSmall }

/-- 'umpiragelaw4.SoftFaults', WHERE WHAT IT READS IS OF BULK AT MOST 1048576: true; the input reads as it did. -/
def softFaultsUptoRow : OpenClaim := { program := "ytahphdchlaplaaa", sum := "1ce50230c60792666f52edb578120539d5c58b751e2c72806625d88dfec82340", func := "umpirage/umpiragelaw4.SoftFaults", spec := "softFaults", unfollowed := true, recurses := true, apart := false, narrowed := true }
def SoftFaultsUptoSaid : Prop := softFaultsUptoRow.holds Try.pinned (OpenSpec.upto softFaultsSpec)

/-- 'umpiragelaw4.SoftLeast', WHERE WHAT IT READS IS OF BULK AT MOST 1048576: true; the input reads as it did. -/
def softLeastUptoRow : OpenClaim := { program := "ytahphdchlaplaaa", sum := "1ce50230c60792666f52edb578120539d5c58b751e2c72806625d88dfec82340", func := "umpirage/umpiragelaw4.SoftLeast", spec := "softLeast", unfollowed := true, recurses := true, apart := false, narrowed := true }
def SoftLeastUptoSaid : Prop := softLeastUptoRow.holds Try.pinned (OpenSpec.upto softLeastSpec)

/-- 'umpiragelaw4.SoftAnswers', WHERE WHAT IT READS IS OF BULK AT MOST 1048576: true; the input reads as it did. -/
def softAnswersUptoRow : OpenClaim := { program := "ytahphdchlaplaaa", sum := "1ce50230c60792666f52edb578120539d5c58b751e2c72806625d88dfec82340", func := "umpirage/umpiragelaw4.SoftAnswers", spec := "softAnswers", unfollowed := true, recurses := true, apart := false, narrowed := true }
def SoftAnswersUptoSaid : Prop := softAnswersUptoRow.holds Try.pinned (OpenSpec.upto softAnswersSpec)

/-- 'umpiragelaw4.SoftMore', WHERE WHAT IT READS IS OF BULK AT MOST 1048576: true; the input reads as it did. -/
def softMoreUptoRow : OpenClaim := { program := "ytahphdchlaplaaa", sum := "1ce50230c60792666f52edb578120539d5c58b751e2c72806625d88dfec82340", func := "umpirage/umpiragelaw4.SoftMore", spec := "softMore", unfollowed := true, recurses := true, apart := false, narrowed := true }
def SoftMoreUptoSaid : Prop := softMoreUptoRow.holds Try.pinned (OpenSpec.upto softMoreSpec)

/-- 'umpiragelaw4.FewMends', WHERE WHAT IT READS IS OF BULK AT MOST 1048576: true; the input reads as it did. -/
def fewMendsUptoRow : OpenClaim := { program := "ytahphdchlaplaaa", sum := "1ce50230c60792666f52edb578120539d5c58b751e2c72806625d88dfec82340", func := "umpirage/umpiragelaw4.FewMends", spec := "fewMends", unfollowed := true, recurses := true, apart := false, narrowed := true }
def FewMendsUptoSaid : Prop := fewMendsUptoRow.holds Try.pinned (OpenSpec.upto fewMendsSpec)

/-- 'umpiragelaw4.FewAlls', WHERE WHAT IT READS IS OF BULK AT MOST 1048576: true; the input reads as it did. -/
def fewAllsUptoRow : OpenClaim := { program := "ytahphdchlaplaaa", sum := "1ce50230c60792666f52edb578120539d5c58b751e2c72806625d88dfec82340", func := "umpirage/umpiragelaw4.FewAlls", spec := "fewAlls", unfollowed := true, recurses := true, apart := false, narrowed := true }
def FewAllsUptoSaid : Prop := fewAllsUptoRow.holds Try.pinned (OpenSpec.upto fewAllsSpec)

/-- 'umpiragelaw4.FewHit', WHERE WHAT IT READS IS OF BULK AT MOST 1048576: true; the input reads as it did. -/
def fewHitUptoRow : OpenClaim := { program := "ytahphdchlaplaaa", sum := "1ce50230c60792666f52edb578120539d5c58b751e2c72806625d88dfec82340", func := "umpirage/umpiragelaw4.FewHit", spec := "fewHit", unfollowed := true, recurses := true, apart := false, narrowed := true }
def FewHitUptoSaid : Prop := fewHitUptoRow.holds Try.pinned (OpenSpec.upto fewHitSpec)

/-- 'umpiragelaw4.ParSolves', WHERE WHAT IT READS IS OF BULK AT MOST 1048576: true; the input reads as it did. -/
def parSolvesUptoRow : OpenClaim := { program := "ytahphdchlaplaaa", sum := "1ce50230c60792666f52edb578120539d5c58b751e2c72806625d88dfec82340", func := "umpirage/umpiragelaw4.ParSolves", spec := "parSolves", unfollowed := true, recurses := true, apart := false, narrowed := true }
def ParSolvesUptoSaid : Prop := parSolvesUptoRow.holds Try.pinned (OpenSpec.upto parSolvesSpec)

/-- 'umpiragelaw4.ParSolved', WHERE WHAT IT READS IS OF BULK AT MOST 1048576: true; the input reads as it did. -/
def parSolvedUptoRow : OpenClaim := { program := "ytahphdchlaplaaa", sum := "1ce50230c60792666f52edb578120539d5c58b751e2c72806625d88dfec82340", func := "umpirage/umpiragelaw4.ParSolved", spec := "parSolved", unfollowed := true, recurses := true, apart := false, narrowed := true }
def ParSolvedUptoSaid : Prop := parSolvedUptoRow.holds Try.pinned (OpenSpec.upto parSolvedSpec)

/-- 'umpiragelaw4.ParFinds', WHERE WHAT IT READS IS OF BULK AT MOST 1048576: true; the input reads as it did. -/
def parFindsUptoRow : OpenClaim := { program := "ytahphdchlaplaaa", sum := "1ce50230c60792666f52edb578120539d5c58b751e2c72806625d88dfec82340", func := "umpirage/umpiragelaw4.ParFinds", spec := "parFinds", unfollowed := true, recurses := true, apart := false, narrowed := true }
def ParFindsUptoSaid : Prop := parFindsUptoRow.holds Try.pinned (OpenSpec.upto parFindsSpec)

/-- 'umpiragelaw4.ParBack', WHERE WHAT IT READS IS OF BULK AT MOST 1048576: true; the input reads as it did. -/
def parBackUptoRow : OpenClaim := { program := "ytahphdchlaplaaa", sum := "1ce50230c60792666f52edb578120539d5c58b751e2c72806625d88dfec82340", func := "umpirage/umpiragelaw4.ParBack", spec := "parBack", unfollowed := true, recurses := true, apart := false, narrowed := true }
def ParBackUptoSaid : Prop := parBackUptoRow.holds Try.pinned (OpenSpec.upto parBackSpec)

/-- 'umpiragelaw4.CdclFaults', WHERE WHAT IT READS IS OF BULK AT MOST 1048576: true; the input reads as it did. -/
def cdclFaultsUptoRow : OpenClaim := { program := "ytahphdchlaplaaa", sum := "1ce50230c60792666f52edb578120539d5c58b751e2c72806625d88dfec82340", func := "umpirage/umpiragelaw4.CdclFaults", spec := "cdclFaults", unfollowed := true, recurses := true, apart := false, narrowed := true }
def CdclFaultsUptoSaid : Prop := cdclFaultsUptoRow.holds Try.pinned (OpenSpec.upto cdclFaultsSpec)

end Rows
end Go.Proofs.Ytahphdchlaplaaa
