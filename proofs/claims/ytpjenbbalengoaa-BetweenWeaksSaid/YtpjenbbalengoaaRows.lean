/-
  No cell of these rows narrows 'for every input' (looked for: loops, veiled, ifaces, maps, wideKeys, modest, calm, conditions, laid).
  DERIVED. THE GIVEN ROWS OF THIS SEAT. 12 by the template 'for every input the law returns true; each argument reads behind the call as it read before'; 0 by the template 'total and deterministic' (their statements: YtpjenbbalengoaaTotals.lean).
  GIVEN WITH THE SEED: the statements are not yours to turn. If you find one false, say at which input.
  Laid BY PROGRAM, IN A SANDBOX (cutbox-rows.mjs): the forced cells as the released guide's own fill.sh prints them over the translation 89df7525b8210f30… (all of the seat's roots in one cut). By AI agents, Wed Nov 11 2026. No macro, syntax, notation, axiom, sorry.
-/
import Derived.Test.YtpjenbbalengoaaChecked
import GoSem.Claim
import GoSem.ClaimJoined
import GoSem.ClaimMapViews
import Derived.JoinedTies
import Derived.KernelRfl
namespace Go.Proofs.Ytpjenbbalengoaa
/- THE CELL 'sum', in the pinned program and in every row, IS THE sha256 OF THE DUMP (.gsa) THAT YtpjenbbalengoaaProg.lean LOADS. Nothing in Lean hashes anything: it is a label: what it is worth is what the hold of that sum in a sandbox is worth. -/
noncomputable def Try.pinned : Pinned := { name := "ytpjenbbalengoaa", sum := "89df7525b8210f30a913a3e8249968b4b0ce34d15470fa27961fab463774809e", checked := Try.checked }
namespace Rows
def none {H : Type} : Left H := { results := [], args := [] }

/-- 'umpiragelaw4.ParSolved': WHATEVER THE INPUT: true; the input reads as it did. -/
def parSolvedSpec : ChangeSpec := { name := "parSolved", fn := fun _ => fun
  | [d1, d2, d3] => { results := [.lit (.bool true)], args := [d1, d2, d3] }
  | _ => none }
def parSolvedRow : OpenClaim := { program := "ytpjenbbalengoaa", sum := "89df7525b8210f30a913a3e8249968b4b0ce34d15470fa27961fab463774809e", func := "umpirage/umpiragelaw4.ParSolved", spec := "parSolved", unfollowed := true, recurses := true, plainKeys := false, apart := false }
def ParSolvedSaid : Prop := parSolvedRow.holds Try.pinned (OpenSpec.ofChange parSolvedSpec)

/-- ITS FALSE NEIGHBOUR: 'it returns false'. Refute it at one input. -/
def parSolvedWrong : ChangeSpec := { name := "parSolved", fn := fun _ => fun
  | [d1, d2, d3] => { results := [.lit (.bool false)], args := [d1, d2, d3] }
  | _ => none }
def ParSolvedWrongFalsely : Prop := parSolvedRow.holds Try.pinned (OpenSpec.ofChange parSolvedWrong)

/-- 'umpiragelaw4.CdclFaults': WHATEVER THE INPUT: true; the input reads as it did. -/
def cdclFaultsSpec : ChangeSpec := { name := "cdclFaults", fn := fun _ => fun
  | [d1, d2, d3, d4] => { results := [.lit (.bool true)], args := [d1, d2, d3, d4] }
  | _ => none }
def cdclFaultsRow : OpenClaim := { program := "ytpjenbbalengoaa", sum := "89df7525b8210f30a913a3e8249968b4b0ce34d15470fa27961fab463774809e", func := "umpirage/umpiragelaw4.CdclFaults", spec := "cdclFaults", unfollowed := true, recurses := true, plainKeys := false, apart := false }
def CdclFaultsSaid : Prop := cdclFaultsRow.holds Try.pinned (OpenSpec.ofChange cdclFaultsSpec)

/-- ITS FALSE NEIGHBOUR: 'it returns false'. Refute it at one input. -/
def cdclFaultsWrong : ChangeSpec := { name := "cdclFaults", fn := fun _ => fun
  | [d1, d2, d3, d4] => { results := [.lit (.bool false)], args := [d1, d2, d3, d4] }
  | _ => none }
def CdclFaultsWrongFalsely : Prop := cdclFaultsRow.holds Try.pinned (OpenSpec.ofChange cdclFaultsWrong)

/-- 'umpiragelaw4.CdclAnswers': WHATEVER THE INPUT: true; the input reads as it did. -/
def cdclAnswersSpec : ChangeSpec := { name := "cdclAnswers", fn := fun _ => fun
  | [d1, d2, d3, d4] => { results := [.lit (.bool true)], args := [d1, d2, d3, d4] }
  | _ => none }
def cdclAnswersRow : OpenClaim := { program := "ytpjenbbalengoaa", sum := "89df7525b8210f30a913a3e8249968b4b0ce34d15470fa27961fab463774809e", func := "umpirage/umpiragelaw4.CdclAnswers", spec := "cdclAnswers", unfollowed := true, recurses := true, plainKeys := false, apart := false }
def CdclAnswersSaid : Prop := cdclAnswersRow.holds Try.pinned (OpenSpec.ofChange cdclAnswersSpec)

/-- ITS FALSE NEIGHBOUR: 'it returns false'. Refute it at one input. -/
def cdclAnswersWrong : ChangeSpec := { name := "cdclAnswers", fn := fun _ => fun
  | [d1, d2, d3, d4] => { results := [.lit (.bool false)], args := [d1, d2, d3, d4] }
  | _ => none }
def CdclAnswersWrongFalsely : Prop := cdclAnswersRow.holds Try.pinned (OpenSpec.ofChange cdclAnswersWrong)

/-- 'umpiragelaw4.CdclDecides': WHATEVER THE INPUT: true; the input reads as it did. -/
def cdclDecidesSpec : ChangeSpec := { name := "cdclDecides", fn := fun _ => fun
  | [d1, d2, d3] => { results := [.lit (.bool true)], args := [d1, d2, d3] }
  | _ => none }
def cdclDecidesRow : OpenClaim := { program := "ytpjenbbalengoaa", sum := "89df7525b8210f30a913a3e8249968b4b0ce34d15470fa27961fab463774809e", func := "umpirage/umpiragelaw4.CdclDecides", spec := "cdclDecides", unfollowed := true, recurses := true, plainKeys := false, apart := false }
def CdclDecidesSaid : Prop := cdclDecidesRow.holds Try.pinned (OpenSpec.ofChange cdclDecidesSpec)

/-- ITS FALSE NEIGHBOUR: 'it returns false'. Refute it at one input. -/
def cdclDecidesWrong : ChangeSpec := { name := "cdclDecides", fn := fun _ => fun
  | [d1, d2, d3] => { results := [.lit (.bool false)], args := [d1, d2, d3] }
  | _ => none }
def CdclDecidesWrongFalsely : Prop := cdclDecidesRow.holds Try.pinned (OpenSpec.ofChange cdclDecidesWrong)

/-- 'umpiragelaw4.CdclCore': WHATEVER THE INPUT: true; the input reads as it did. -/
def cdclCoreSpec : ChangeSpec := { name := "cdclCore", fn := fun _ => fun
  | [d1, d2, d3] => { results := [.lit (.bool true)], args := [d1, d2, d3] }
  | _ => none }
def cdclCoreRow : OpenClaim := { program := "ytpjenbbalengoaa", sum := "89df7525b8210f30a913a3e8249968b4b0ce34d15470fa27961fab463774809e", func := "umpirage/umpiragelaw4.CdclCore", spec := "cdclCore", unfollowed := true, recurses := true, plainKeys := false, apart := false }
def CdclCoreSaid : Prop := cdclCoreRow.holds Try.pinned (OpenSpec.ofChange cdclCoreSpec)

/-- ITS FALSE NEIGHBOUR: 'it returns false'. Refute it at one input. -/
def cdclCoreWrong : ChangeSpec := { name := "cdclCore", fn := fun _ => fun
  | [d1, d2, d3] => { results := [.lit (.bool false)], args := [d1, d2, d3] }
  | _ => none }
def CdclCoreWrongFalsely : Prop := cdclCoreRow.holds Try.pinned (OpenSpec.ofChange cdclCoreWrong)

/-- 'umpiragelaw4.CdclFirst': WHATEVER THE INPUT: true; the input reads as it did. -/
def cdclFirstSpec : ChangeSpec := { name := "cdclFirst", fn := fun _ => fun
  | [d1, d2] => { results := [.lit (.bool true)], args := [d1, d2] }
  | _ => none }
def cdclFirstRow : OpenClaim := { program := "ytpjenbbalengoaa", sum := "89df7525b8210f30a913a3e8249968b4b0ce34d15470fa27961fab463774809e", func := "umpirage/umpiragelaw4.CdclFirst", spec := "cdclFirst", unfollowed := true, recurses := true, plainKeys := false, apart := false }
def CdclFirstSaid : Prop := cdclFirstRow.holds Try.pinned (OpenSpec.ofChange cdclFirstSpec)

/-- ITS FALSE NEIGHBOUR: 'it returns false'. Refute it at one input. -/
def cdclFirstWrong : ChangeSpec := { name := "cdclFirst", fn := fun _ => fun
  | [d1, d2] => { results := [.lit (.bool false)], args := [d1, d2] }
  | _ => none }
def CdclFirstWrongFalsely : Prop := cdclFirstRow.holds Try.pinned (OpenSpec.ofChange cdclFirstWrong)

/-- 'umpiragelaw4.CdclTaken': WHATEVER THE INPUT: true; the input reads as it did. -/
def cdclTakenSpec : ChangeSpec := { name := "cdclTaken", fn := fun _ => fun
  | [d1, d2] => { results := [.lit (.bool true)], args := [d1, d2] }
  | _ => none }
def cdclTakenRow : OpenClaim := { program := "ytpjenbbalengoaa", sum := "89df7525b8210f30a913a3e8249968b4b0ce34d15470fa27961fab463774809e", func := "umpirage/umpiragelaw4.CdclTaken", spec := "cdclTaken", unfollowed := true, recurses := true, plainKeys := false, apart := false }
def CdclTakenSaid : Prop := cdclTakenRow.holds Try.pinned (OpenSpec.ofChange cdclTakenSpec)

/-- ITS FALSE NEIGHBOUR: 'it returns false'. Refute it at one input. -/
def cdclTakenWrong : ChangeSpec := { name := "cdclTaken", fn := fun _ => fun
  | [d1, d2] => { results := [.lit (.bool false)], args := [d1, d2] }
  | _ => none }
def CdclTakenWrongFalsely : Prop := cdclTakenRow.holds Try.pinned (OpenSpec.ofChange cdclTakenWrong)

/-- 'umpiragelaw4.BetweenTakes': WHATEVER THE INPUT: true; the input reads as it did. -/
def betweenTakesSpec : ChangeSpec := { name := "betweenTakes", fn := fun _ => fun
  | [d1, d2, d3] => { results := [.lit (.bool true)], args := [d1, d2, d3] }
  | _ => none }
def betweenTakesRow : OpenClaim := { program := "ytpjenbbalengoaa", sum := "89df7525b8210f30a913a3e8249968b4b0ce34d15470fa27961fab463774809e", func := "umpirage/umpiragelaw4.BetweenTakes", spec := "betweenTakes", unfollowed := true, recurses := true, plainKeys := false, apart := false }
def BetweenTakesSaid : Prop := betweenTakesRow.holds Try.pinned (OpenSpec.ofChange betweenTakesSpec)

/-- ITS FALSE NEIGHBOUR: 'it returns false'. Refute it at one input. -/
def betweenTakesWrong : ChangeSpec := { name := "betweenTakes", fn := fun _ => fun
  | [d1, d2, d3] => { results := [.lit (.bool false)], args := [d1, d2, d3] }
  | _ => none }
def BetweenTakesWrongFalsely : Prop := betweenTakesRow.holds Try.pinned (OpenSpec.ofChange betweenTakesWrong)

/-- 'umpiragelaw4.BetweenEvens': WHATEVER THE INPUT: true; the input reads as it did. -/
def betweenEvensSpec : ChangeSpec := { name := "betweenEvens", fn := fun _ => fun
  | [d1, d2, d3] => { results := [.lit (.bool true)], args := [d1, d2, d3] }
  | _ => none }
def betweenEvensRow : OpenClaim := { program := "ytpjenbbalengoaa", sum := "89df7525b8210f30a913a3e8249968b4b0ce34d15470fa27961fab463774809e", func := "umpirage/umpiragelaw4.BetweenEvens", spec := "betweenEvens", unfollowed := true, recurses := true, plainKeys := false, apart := false }
def BetweenEvensSaid : Prop := betweenEvensRow.holds Try.pinned (OpenSpec.ofChange betweenEvensSpec)

/-- ITS FALSE NEIGHBOUR: 'it returns false'. Refute it at one input. -/
def betweenEvensWrong : ChangeSpec := { name := "betweenEvens", fn := fun _ => fun
  | [d1, d2, d3] => { results := [.lit (.bool false)], args := [d1, d2, d3] }
  | _ => none }
def BetweenEvensWrongFalsely : Prop := betweenEvensRow.holds Try.pinned (OpenSpec.ofChange betweenEvensWrong)

/-- 'umpiragelaw4.BetweenStands': WHATEVER THE INPUT: true; the input reads as it did. -/
def betweenStandsSpec : ChangeSpec := { name := "betweenStands", fn := fun _ => fun
  | [d1, d2, d3] => { results := [.lit (.bool true)], args := [d1, d2, d3] }
  | _ => none }
def betweenStandsRow : OpenClaim := { program := "ytpjenbbalengoaa", sum := "89df7525b8210f30a913a3e8249968b4b0ce34d15470fa27961fab463774809e", func := "umpirage/umpiragelaw4.BetweenStands", spec := "betweenStands", unfollowed := true, recurses := true, plainKeys := false, apart := false }
def BetweenStandsSaid : Prop := betweenStandsRow.holds Try.pinned (OpenSpec.ofChange betweenStandsSpec)

/-- ITS FALSE NEIGHBOUR: 'it returns false'. Refute it at one input. -/
def betweenStandsWrong : ChangeSpec := { name := "betweenStands", fn := fun _ => fun
  | [d1, d2, d3] => { results := [.lit (.bool false)], args := [d1, d2, d3] }
  | _ => none }
def BetweenStandsWrongFalsely : Prop := betweenStandsRow.holds Try.pinned (OpenSpec.ofChange betweenStandsWrong)

/-- 'umpiragelaw4.BetweenStrongs': WHATEVER THE INPUT: true; the input reads as it did. -/
def betweenStrongsSpec : ChangeSpec := { name := "betweenStrongs", fn := fun _ => fun
  | [d1, d2] => { results := [.lit (.bool true)], args := [d1, d2] }
  | _ => none }
def betweenStrongsRow : OpenClaim := { program := "ytpjenbbalengoaa", sum := "89df7525b8210f30a913a3e8249968b4b0ce34d15470fa27961fab463774809e", func := "umpirage/umpiragelaw4.BetweenStrongs", spec := "betweenStrongs", unfollowed := true, recurses := true, plainKeys := false, apart := false }
def BetweenStrongsSaid : Prop := betweenStrongsRow.holds Try.pinned (OpenSpec.ofChange betweenStrongsSpec)

/-- ITS FALSE NEIGHBOUR: 'it returns false'. Refute it at one input. -/
def betweenStrongsWrong : ChangeSpec := { name := "betweenStrongs", fn := fun _ => fun
  | [d1, d2] => { results := [.lit (.bool false)], args := [d1, d2] }
  | _ => none }
def BetweenStrongsWrongFalsely : Prop := betweenStrongsRow.holds Try.pinned (OpenSpec.ofChange betweenStrongsWrong)

/-- 'umpiragelaw4.BetweenWeaks': WHATEVER THE INPUT: true; the input reads as it did. -/
def betweenWeaksSpec : ChangeSpec := { name := "betweenWeaks", fn := fun _ => fun
  | [d1, d2] => { results := [.lit (.bool true)], args := [d1, d2] }
  | _ => none }
def betweenWeaksRow : OpenClaim := { program := "ytpjenbbalengoaa", sum := "89df7525b8210f30a913a3e8249968b4b0ce34d15470fa27961fab463774809e", func := "umpirage/umpiragelaw4.BetweenWeaks", spec := "betweenWeaks", unfollowed := true, recurses := true, plainKeys := false, apart := false }
def BetweenWeaksSaid : Prop := betweenWeaksRow.holds Try.pinned (OpenSpec.ofChange betweenWeaksSpec)

/-- ITS FALSE NEIGHBOUR: 'it returns false'. Refute it at one input. -/
def betweenWeaksWrong : ChangeSpec := { name := "betweenWeaks", fn := fun _ => fun
  | [d1, d2] => { results := [.lit (.bool false)], args := [d1, d2] }
  | _ => none }
def BetweenWeaksWrongFalsely : Prop := betweenWeaksRow.holds Try.pinned (OpenSpec.ofChange betweenWeaksWrong)

/- THE SECOND FORM. 'bulk': how many values and letters a reading holds, each counted each time it is reached (what is shared counts as often as it is met; a slice's spare places count too). A statement '..UptoSaid' is the law's where the arguments, and the package variables that the reading takes, are together of bulk at most 1048576: NARROWER than '..Said'. Prove '..Said' where nothing that the law and all that it calls make is longer than what came in: it says more and counts as full. Else prove '..UptoSaid'. A law counts once. -/
mutual
def uptoBulk {H : Type} : DataW H → Nat
  | .lit (.string bytes) => bytes.length + 1
  | .lit _ => 1
  | .nil => 1
  | .ptr d => uptoBulk d + 1
  | .slice elems spare => uptoBulkAll elems + uptoBulkAll spare + 1
  | .agg parts => uptoBulkAll parts + 1
  | .iface _ d => uptoBulk d + 1
  | .map entries => uptoBulkEntries entries + 1
  | .held _ => 1
def uptoBulkAll {H : Type} : List (DataW H) → Nat
  | [] => 0
  | d :: r => uptoBulk d + uptoBulkAll r
def uptoBulkEntries {H : Type} : List (Lit × DataW H) → Nat
  | [] => 0
  | x :: r => uptoBulkEntry x + uptoBulkEntries r
def uptoBulkEntry {H : Type} : Lit × DataW H → Nat
  | (.string bytes, d) => bytes.length + uptoBulk d + 1
  | (_, d) => uptoBulk d + 1
 end
def uptoSmall : (H : Type) → List (DataW H) → Bool := fun _ ds => decide (uptoBulkAll ds ≤ 1048576)
def OpenSpec.upto (s : _root_.Go.ChangeSpec) : _root_.Go.OpenSpec := { _root_.Go.OpenSpec.ofChange s with cond := some uptoSmall }

/-- 'umpiragelaw4.ParSolved', WHERE WHAT IT READS IS OF BULK AT MOST 1048576: true; the input reads as it did. -/
def parSolvedUptoRow : OpenClaim := { program := "ytpjenbbalengoaa", sum := "89df7525b8210f30a913a3e8249968b4b0ce34d15470fa27961fab463774809e", func := "umpirage/umpiragelaw4.ParSolved", spec := "parSolved", unfollowed := true, recurses := true, plainKeys := false, apart := false, narrowed := true }
def ParSolvedUptoSaid : Prop := parSolvedUptoRow.holds Try.pinned (OpenSpec.upto parSolvedSpec)

/-- 'umpiragelaw4.CdclFaults', WHERE WHAT IT READS IS OF BULK AT MOST 1048576: true; the input reads as it did. -/
def cdclFaultsUptoRow : OpenClaim := { program := "ytpjenbbalengoaa", sum := "89df7525b8210f30a913a3e8249968b4b0ce34d15470fa27961fab463774809e", func := "umpirage/umpiragelaw4.CdclFaults", spec := "cdclFaults", unfollowed := true, recurses := true, plainKeys := false, apart := false, narrowed := true }
def CdclFaultsUptoSaid : Prop := cdclFaultsUptoRow.holds Try.pinned (OpenSpec.upto cdclFaultsSpec)

/-- 'umpiragelaw4.CdclAnswers', WHERE WHAT IT READS IS OF BULK AT MOST 1048576: true; the input reads as it did. -/
def cdclAnswersUptoRow : OpenClaim := { program := "ytpjenbbalengoaa", sum := "89df7525b8210f30a913a3e8249968b4b0ce34d15470fa27961fab463774809e", func := "umpirage/umpiragelaw4.CdclAnswers", spec := "cdclAnswers", unfollowed := true, recurses := true, plainKeys := false, apart := false, narrowed := true }
def CdclAnswersUptoSaid : Prop := cdclAnswersUptoRow.holds Try.pinned (OpenSpec.upto cdclAnswersSpec)

/-- 'umpiragelaw4.CdclDecides', WHERE WHAT IT READS IS OF BULK AT MOST 1048576: true; the input reads as it did. -/
def cdclDecidesUptoRow : OpenClaim := { program := "ytpjenbbalengoaa", sum := "89df7525b8210f30a913a3e8249968b4b0ce34d15470fa27961fab463774809e", func := "umpirage/umpiragelaw4.CdclDecides", spec := "cdclDecides", unfollowed := true, recurses := true, plainKeys := false, apart := false, narrowed := true }
def CdclDecidesUptoSaid : Prop := cdclDecidesUptoRow.holds Try.pinned (OpenSpec.upto cdclDecidesSpec)

/-- 'umpiragelaw4.CdclCore', WHERE WHAT IT READS IS OF BULK AT MOST 1048576: true; the input reads as it did. -/
def cdclCoreUptoRow : OpenClaim := { program := "ytpjenbbalengoaa", sum := "89df7525b8210f30a913a3e8249968b4b0ce34d15470fa27961fab463774809e", func := "umpirage/umpiragelaw4.CdclCore", spec := "cdclCore", unfollowed := true, recurses := true, plainKeys := false, apart := false, narrowed := true }
def CdclCoreUptoSaid : Prop := cdclCoreUptoRow.holds Try.pinned (OpenSpec.upto cdclCoreSpec)

/-- 'umpiragelaw4.CdclFirst', WHERE WHAT IT READS IS OF BULK AT MOST 1048576: true; the input reads as it did. -/
def cdclFirstUptoRow : OpenClaim := { program := "ytpjenbbalengoaa", sum := "89df7525b8210f30a913a3e8249968b4b0ce34d15470fa27961fab463774809e", func := "umpirage/umpiragelaw4.CdclFirst", spec := "cdclFirst", unfollowed := true, recurses := true, plainKeys := false, apart := false, narrowed := true }
def CdclFirstUptoSaid : Prop := cdclFirstUptoRow.holds Try.pinned (OpenSpec.upto cdclFirstSpec)

/-- 'umpiragelaw4.CdclTaken', WHERE WHAT IT READS IS OF BULK AT MOST 1048576: true; the input reads as it did. -/
def cdclTakenUptoRow : OpenClaim := { program := "ytpjenbbalengoaa", sum := "89df7525b8210f30a913a3e8249968b4b0ce34d15470fa27961fab463774809e", func := "umpirage/umpiragelaw4.CdclTaken", spec := "cdclTaken", unfollowed := true, recurses := true, plainKeys := false, apart := false, narrowed := true }
def CdclTakenUptoSaid : Prop := cdclTakenUptoRow.holds Try.pinned (OpenSpec.upto cdclTakenSpec)

/-- 'umpiragelaw4.BetweenTakes', WHERE WHAT IT READS IS OF BULK AT MOST 1048576: true; the input reads as it did. -/
def betweenTakesUptoRow : OpenClaim := { program := "ytpjenbbalengoaa", sum := "89df7525b8210f30a913a3e8249968b4b0ce34d15470fa27961fab463774809e", func := "umpirage/umpiragelaw4.BetweenTakes", spec := "betweenTakes", unfollowed := true, recurses := true, plainKeys := false, apart := false, narrowed := true }
def BetweenTakesUptoSaid : Prop := betweenTakesUptoRow.holds Try.pinned (OpenSpec.upto betweenTakesSpec)

/-- 'umpiragelaw4.BetweenEvens', WHERE WHAT IT READS IS OF BULK AT MOST 1048576: true; the input reads as it did. -/
def betweenEvensUptoRow : OpenClaim := { program := "ytpjenbbalengoaa", sum := "89df7525b8210f30a913a3e8249968b4b0ce34d15470fa27961fab463774809e", func := "umpirage/umpiragelaw4.BetweenEvens", spec := "betweenEvens", unfollowed := true, recurses := true, plainKeys := false, apart := false, narrowed := true }
def BetweenEvensUptoSaid : Prop := betweenEvensUptoRow.holds Try.pinned (OpenSpec.upto betweenEvensSpec)

/-- 'umpiragelaw4.BetweenStands', WHERE WHAT IT READS IS OF BULK AT MOST 1048576: true; the input reads as it did. -/
def betweenStandsUptoRow : OpenClaim := { program := "ytpjenbbalengoaa", sum := "89df7525b8210f30a913a3e8249968b4b0ce34d15470fa27961fab463774809e", func := "umpirage/umpiragelaw4.BetweenStands", spec := "betweenStands", unfollowed := true, recurses := true, plainKeys := false, apart := false, narrowed := true }
def BetweenStandsUptoSaid : Prop := betweenStandsUptoRow.holds Try.pinned (OpenSpec.upto betweenStandsSpec)

/-- 'umpiragelaw4.BetweenStrongs', WHERE WHAT IT READS IS OF BULK AT MOST 1048576: true; the input reads as it did. -/
def betweenStrongsUptoRow : OpenClaim := { program := "ytpjenbbalengoaa", sum := "89df7525b8210f30a913a3e8249968b4b0ce34d15470fa27961fab463774809e", func := "umpirage/umpiragelaw4.BetweenStrongs", spec := "betweenStrongs", unfollowed := true, recurses := true, plainKeys := false, apart := false, narrowed := true }
def BetweenStrongsUptoSaid : Prop := betweenStrongsUptoRow.holds Try.pinned (OpenSpec.upto betweenStrongsSpec)

/-- 'umpiragelaw4.BetweenWeaks', WHERE WHAT IT READS IS OF BULK AT MOST 1048576: true; the input reads as it did. -/
def betweenWeaksUptoRow : OpenClaim := { program := "ytpjenbbalengoaa", sum := "89df7525b8210f30a913a3e8249968b4b0ce34d15470fa27961fab463774809e", func := "umpirage/umpiragelaw4.BetweenWeaks", spec := "betweenWeaks", unfollowed := true, recurses := true, plainKeys := false, apart := false, narrowed := true }
def BetweenWeaksUptoSaid : Prop := betweenWeaksUptoRow.holds Try.pinned (OpenSpec.upto betweenWeaksSpec)

end Rows
end Go.Proofs.Ytpjenbbalengoaa
