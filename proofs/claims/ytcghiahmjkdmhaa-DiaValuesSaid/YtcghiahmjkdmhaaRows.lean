/-
  No cell of these rows narrows 'for every input' (looked for: loops, veiled, ifaces, maps, wideKeys, modest, calm, conditions, laid).
  DERIVED. THE GIVEN ROWS OF THIS SEAT. 12 by the template 'for every input the law returns true; each argument reads behind the call as it read before'; 0 by the template 'total and deterministic' (their statements: YtcghiahmjkdmhaaTotals.lean).
  GIVEN WITH THE SEED: the statements are not yours to turn. If you find one false, say at which input.
  Laid BY PROGRAM, IN A SANDBOX (cutbox-rows.mjs): the forced cells as the released guide's own fill.sh prints them over the translation 71447a00d6c629ca… (all of the seat's roots in one cut). By AI agents, Wed Nov 11 2026. No macro, syntax, notation, axiom, sorry.
-/
import Derived.Test.YtcghiahmjkdmhaaChecked
import GoSem.Claim
import GoSem.ClaimJoined
import GoSem.ClaimMapViews
import Derived.JoinedTies
import Derived.KernelRfl
namespace Go.Proofs.Ytcghiahmjkdmhaa
/- THE CELL 'sum', in the pinned program and in every row, IS THE sha256 OF THE DUMP (.gsa) THAT YtcghiahmjkdmhaaProg.lean LOADS. Nothing in Lean hashes anything: it is a label: what it is worth is what the hold of that sum in a sandbox is worth. -/
noncomputable def Try.pinned : Pinned := { name := "ytcghiahmjkdmhaa", sum := "71447a00d6c629cacfb9161e772558203543bcd47a4e469d3f8ba48808230a26", checked := Try.checked }
namespace Rows
def none {H : Type} : Left H := { results := [], args := [] }

/-- 'umpiragelaw4.ParChecks': WHATEVER THE INPUT: true; the input reads as it did. -/
def parChecksSpec : ChangeSpec := { name := "parChecks", fn := fun _ => fun
  | [d1, d2] => { results := [.lit (.bool true)], args := [d1, d2] }
  | _ => none }
def parChecksRow : OpenClaim := { program := "ytcghiahmjkdmhaa", sum := "71447a00d6c629cacfb9161e772558203543bcd47a4e469d3f8ba48808230a26", func := "umpirage/umpiragelaw4.ParChecks", spec := "parChecks", plainKeys := false, apart := false }
def ParChecksSaid : Prop := parChecksRow.holds Try.pinned (OpenSpec.ofChange parChecksSpec)

/-- ITS FALSE NEIGHBOUR: 'it returns false'. Refute it at one input. -/
def parChecksWrong : ChangeSpec := { name := "parChecks", fn := fun _ => fun
  | [d1, d2] => { results := [.lit (.bool false)], args := [d1, d2] }
  | _ => none }
def ParChecksWrongFalsely : Prop := parChecksRow.holds Try.pinned (OpenSpec.ofChange parChecksWrong)

/-- 'umpiragelaw4.DiaChecks': WHATEVER THE INPUT: true; the input reads as it did. -/
def diaChecksSpec : ChangeSpec := { name := "diaChecks", fn := fun _ => fun
  | [d1, d2] => { results := [.lit (.bool true)], args := [d1, d2] }
  | _ => none }
def diaChecksRow : OpenClaim := { program := "ytcghiahmjkdmhaa", sum := "71447a00d6c629cacfb9161e772558203543bcd47a4e469d3f8ba48808230a26", func := "umpirage/umpiragelaw4.DiaChecks", spec := "diaChecks", unfollowed := true, recurses := true, plainKeys := false, apart := false }
def DiaChecksSaid : Prop := diaChecksRow.holds Try.pinned (OpenSpec.ofChange diaChecksSpec)

/-- ITS FALSE NEIGHBOUR: 'it returns false'. Refute it at one input. -/
def diaChecksWrong : ChangeSpec := { name := "diaChecks", fn := fun _ => fun
  | [d1, d2] => { results := [.lit (.bool false)], args := [d1, d2] }
  | _ => none }
def DiaChecksWrongFalsely : Prop := diaChecksRow.holds Try.pinned (OpenSpec.ofChange diaChecksWrong)

/-- 'umpiragelaw4.CardMosts': WHATEVER THE INPUT: true; the input reads as it did. -/
def cardMostsSpec : ChangeSpec := { name := "cardMosts", fn := fun _ => fun
  | [d1, d2, d3, d4] => { results := [.lit (.bool true)], args := [d1, d2, d3, d4] }
  | _ => none }
def cardMostsRow : OpenClaim := { program := "ytcghiahmjkdmhaa", sum := "71447a00d6c629cacfb9161e772558203543bcd47a4e469d3f8ba48808230a26", func := "umpirage/umpiragelaw4.CardMosts", spec := "cardMosts", unfollowed := true, recurses := true, plainKeys := false, apart := false }
def CardMostsSaid : Prop := cardMostsRow.holds Try.pinned (OpenSpec.ofChange cardMostsSpec)

/-- ITS FALSE NEIGHBOUR: 'it returns false'. Refute it at one input. -/
def cardMostsWrong : ChangeSpec := { name := "cardMosts", fn := fun _ => fun
  | [d1, d2, d3, d4] => { results := [.lit (.bool false)], args := [d1, d2, d3, d4] }
  | _ => none }
def CardMostsWrongFalsely : Prop := cardMostsRow.holds Try.pinned (OpenSpec.ofChange cardMostsWrong)

/-- 'umpiragelaw4.CardMust': WHATEVER THE INPUT: true; the input reads as it did. -/
def cardMustSpec : ChangeSpec := { name := "cardMust", fn := fun _ => fun
  | [d1, d2, d3, d4] => { results := [.lit (.bool true)], args := [d1, d2, d3, d4] }
  | _ => none }
def cardMustRow : OpenClaim := { program := "ytcghiahmjkdmhaa", sum := "71447a00d6c629cacfb9161e772558203543bcd47a4e469d3f8ba48808230a26", func := "umpirage/umpiragelaw4.CardMust", spec := "cardMust", unfollowed := true, recurses := true, plainKeys := false, apart := false }
def CardMustSaid : Prop := cardMustRow.holds Try.pinned (OpenSpec.ofChange cardMustSpec)

/-- ITS FALSE NEIGHBOUR: 'it returns false'. Refute it at one input. -/
def cardMustWrong : ChangeSpec := { name := "cardMust", fn := fun _ => fun
  | [d1, d2, d3, d4] => { results := [.lit (.bool false)], args := [d1, d2, d3, d4] }
  | _ => none }
def CardMustWrongFalsely : Prop := cardMustRow.holds Try.pinned (OpenSpec.ofChange cardMustWrong)

/-- 'umpiragelaw4.DiaValues': WHATEVER THE INPUT: true; the input reads as it did. -/
def diaValuesSpec : ChangeSpec := { name := "diaValues", fn := fun _ => fun
  | [d1, d2, d3] => { results := [.lit (.bool true)], args := [d1, d2, d3] }
  | _ => none }
def diaValuesRow : OpenClaim := { program := "ytcghiahmjkdmhaa", sum := "71447a00d6c629cacfb9161e772558203543bcd47a4e469d3f8ba48808230a26", func := "umpirage/umpiragelaw4.DiaValues", spec := "diaValues", unfollowed := true, recurses := true, plainKeys := false, apart := false }
def DiaValuesSaid : Prop := diaValuesRow.holds Try.pinned (OpenSpec.ofChange diaValuesSpec)

/-- ITS FALSE NEIGHBOUR: 'it returns false'. Refute it at one input. -/
def diaValuesWrong : ChangeSpec := { name := "diaValues", fn := fun _ => fun
  | [d1, d2, d3] => { results := [.lit (.bool false)], args := [d1, d2, d3] }
  | _ => none }
def DiaValuesWrongFalsely : Prop := diaValuesRow.holds Try.pinned (OpenSpec.ofChange diaValuesWrong)

/-- 'umpiragelaw4.CardLeasts': WHATEVER THE INPUT: true; the input reads as it did. -/
def cardLeastsSpec : ChangeSpec := { name := "cardLeasts", fn := fun _ => fun
  | [d1, d2, d3, d4] => { results := [.lit (.bool true)], args := [d1, d2, d3, d4] }
  | _ => none }
def cardLeastsRow : OpenClaim := { program := "ytcghiahmjkdmhaa", sum := "71447a00d6c629cacfb9161e772558203543bcd47a4e469d3f8ba48808230a26", func := "umpirage/umpiragelaw4.CardLeasts", spec := "cardLeasts", unfollowed := true, recurses := true, plainKeys := false, apart := false }
def CardLeastsSaid : Prop := cardLeastsRow.holds Try.pinned (OpenSpec.ofChange cardLeastsSpec)

/-- ITS FALSE NEIGHBOUR: 'it returns false'. Refute it at one input. -/
def cardLeastsWrong : ChangeSpec := { name := "cardLeasts", fn := fun _ => fun
  | [d1, d2, d3, d4] => { results := [.lit (.bool false)], args := [d1, d2, d3, d4] }
  | _ => none }
def CardLeastsWrongFalsely : Prop := cardLeastsRow.holds Try.pinned (OpenSpec.ofChange cardLeastsWrong)

/-- 'umpiragelaw4.CardSorts': WHATEVER THE INPUT: true; the input reads as it did. -/
def cardSortsSpec : ChangeSpec := { name := "cardSorts", fn := fun _ => fun
  | [d1, d2, d3] => { results := [.lit (.bool true)], args := [d1, d2, d3] }
  | _ => none }
def cardSortsRow : OpenClaim := { program := "ytcghiahmjkdmhaa", sum := "71447a00d6c629cacfb9161e772558203543bcd47a4e469d3f8ba48808230a26", func := "umpirage/umpiragelaw4.CardSorts", spec := "cardSorts", unfollowed := true, recurses := true, plainKeys := false, apart := false }
def CardSortsSaid : Prop := cardSortsRow.holds Try.pinned (OpenSpec.ofChange cardSortsSpec)

/-- ITS FALSE NEIGHBOUR: 'it returns false'. Refute it at one input. -/
def cardSortsWrong : ChangeSpec := { name := "cardSorts", fn := fun _ => fun
  | [d1, d2, d3] => { results := [.lit (.bool false)], args := [d1, d2, d3] }
  | _ => none }
def CardSortsWrongFalsely : Prop := cardSortsRow.holds Try.pinned (OpenSpec.ofChange cardSortsWrong)

/-- 'umpiragelaw4.AllCounts': WHATEVER THE INPUT: true; the input reads as it did. -/
def allCountsSpec : ChangeSpec := { name := "allCounts", fn := fun _ => fun
  | [d] => { results := [.lit (.bool true)], args := [d] }
  | _ => none }
def allCountsRow : OpenClaim := { program := "ytcghiahmjkdmhaa", sum := "71447a00d6c629cacfb9161e772558203543bcd47a4e469d3f8ba48808230a26", func := "umpirage/umpiragelaw4.AllCounts", spec := "allCounts", unfollowed := true, recurses := true, plainKeys := false, apart := false }
def AllCountsSaid : Prop := allCountsRow.holds Try.pinned (OpenSpec.ofChange allCountsSpec)

/-- ITS FALSE NEIGHBOUR: 'it returns false'. Refute it at one input. -/
def allCountsWrong : ChangeSpec := { name := "allCounts", fn := fun _ => fun
  | [d] => { results := [.lit (.bool false)], args := [d] }
  | _ => none }
def AllCountsWrongFalsely : Prop := allCountsRow.holds Try.pinned (OpenSpec.ofChange allCountsWrong)

/-- 'umpiragelaw4.AllHalves': WHATEVER THE INPUT: true; the input reads as it did. -/
def allHalvesSpec : ChangeSpec := { name := "allHalves", fn := fun _ => fun
  | [d1, d2] => { results := [.lit (.bool true)], args := [d1, d2] }
  | _ => none }
def allHalvesRow : OpenClaim := { program := "ytcghiahmjkdmhaa", sum := "71447a00d6c629cacfb9161e772558203543bcd47a4e469d3f8ba48808230a26", func := "umpirage/umpiragelaw4.AllHalves", spec := "allHalves", unfollowed := true, recurses := true, plainKeys := false, apart := false }
def AllHalvesSaid : Prop := allHalvesRow.holds Try.pinned (OpenSpec.ofChange allHalvesSpec)

/-- ITS FALSE NEIGHBOUR: 'it returns false'. Refute it at one input. -/
def allHalvesWrong : ChangeSpec := { name := "allHalves", fn := fun _ => fun
  | [d1, d2] => { results := [.lit (.bool false)], args := [d1, d2] }
  | _ => none }
def AllHalvesWrongFalsely : Prop := allHalvesRow.holds Try.pinned (OpenSpec.ofChange allHalvesWrong)

/-- 'umpiragelaw4.WalkBreaks': WHATEVER THE INPUT: true; the input reads as it did. -/
def walkBreaksSpec : ChangeSpec := { name := "walkBreaks", fn := fun _ => fun
  | [d1, d2, d3] => { results := [.lit (.bool true)], args := [d1, d2, d3] }
  | _ => none }
def walkBreaksRow : OpenClaim := { program := "ytcghiahmjkdmhaa", sum := "71447a00d6c629cacfb9161e772558203543bcd47a4e469d3f8ba48808230a26", func := "umpirage/umpiragelaw4.WalkBreaks", spec := "walkBreaks", unfollowed := true, recurses := true, plainKeys := false, apart := false }
def WalkBreaksSaid : Prop := walkBreaksRow.holds Try.pinned (OpenSpec.ofChange walkBreaksSpec)

/-- ITS FALSE NEIGHBOUR: 'it returns false'. Refute it at one input. -/
def walkBreaksWrong : ChangeSpec := { name := "walkBreaks", fn := fun _ => fun
  | [d1, d2, d3] => { results := [.lit (.bool false)], args := [d1, d2, d3] }
  | _ => none }
def WalkBreaksWrongFalsely : Prop := walkBreaksRow.holds Try.pinned (OpenSpec.ofChange walkBreaksWrong)

/-- 'umpiragelaw4.DiaCounts': WHATEVER THE INPUT: true; the input reads as it did. -/
def diaCountsSpec : ChangeSpec := { name := "diaCounts", fn := fun _ => fun
  | [d1, d2] => { results := [.lit (.bool true)], args := [d1, d2] }
  | _ => none }
def diaCountsRow : OpenClaim := { program := "ytcghiahmjkdmhaa", sum := "71447a00d6c629cacfb9161e772558203543bcd47a4e469d3f8ba48808230a26", func := "umpirage/umpiragelaw4.DiaCounts", spec := "diaCounts", unfollowed := true, recurses := true, plainKeys := false, apart := false }
def DiaCountsSaid : Prop := diaCountsRow.holds Try.pinned (OpenSpec.ofChange diaCountsSpec)

/-- ITS FALSE NEIGHBOUR: 'it returns false'. Refute it at one input. -/
def diaCountsWrong : ChangeSpec := { name := "diaCounts", fn := fun _ => fun
  | [d1, d2] => { results := [.lit (.bool false)], args := [d1, d2] }
  | _ => none }
def DiaCountsWrongFalsely : Prop := diaCountsRow.holds Try.pinned (OpenSpec.ofChange diaCountsWrong)

/-- 'umpiragelaw4.DiaPicks': WHATEVER THE INPUT: true; the input reads as it did. -/
def diaPicksSpec : ChangeSpec := { name := "diaPicks", fn := fun _ => fun
  | [d1, d2, d3] => { results := [.lit (.bool true)], args := [d1, d2, d3] }
  | _ => none }
def diaPicksRow : OpenClaim := { program := "ytcghiahmjkdmhaa", sum := "71447a00d6c629cacfb9161e772558203543bcd47a4e469d3f8ba48808230a26", func := "umpirage/umpiragelaw4.DiaPicks", spec := "diaPicks", unfollowed := true, recurses := true, plainKeys := false, apart := false }
def DiaPicksSaid : Prop := diaPicksRow.holds Try.pinned (OpenSpec.ofChange diaPicksSpec)

/-- ITS FALSE NEIGHBOUR: 'it returns false'. Refute it at one input. -/
def diaPicksWrong : ChangeSpec := { name := "diaPicks", fn := fun _ => fun
  | [d1, d2, d3] => { results := [.lit (.bool false)], args := [d1, d2, d3] }
  | _ => none }
def DiaPicksWrongFalsely : Prop := diaPicksRow.holds Try.pinned (OpenSpec.ofChange diaPicksWrong)

/- THE SECOND FORM. 'bulk': how many values and letters a reading holds, each counted each time it is reached (what is shared counts as often as it is met; a slice's spare places count too). A statement '..UptoSaid' is the law's where the arguments, and the package variables that the reading takes, are together of bulk at most 1048576: NARROWER than '..Said'. Prove '..Said' where nothing that the law and all that it calls make is longer than what came in: it says more and counts as full. Else prove '..UptoSaid'. A law counts once. -/
mutual
def uptoBulk {H : Type} : DataW H → Nat
  | .lit (.string bytes) => bytes.length + 1
  | .lit _ => 1
  | .nil => 1
  | .ptr d => uptoBulk d + 1
  | .slice elems spare => uptoBulkAll elems + uptoBulkAll spare + 1
  | .agg parts => uptoBulkAll parts + 1
  | .iface _ d => uptoBulk d + 1
  | .map entries => uptoBulkEntries entries + 1
  | .held _ => 1
def uptoBulkAll {H : Type} : List (DataW H) → Nat
  | [] => 0
  | d :: r => uptoBulk d + uptoBulkAll r
def uptoBulkEntries {H : Type} : List (Lit × DataW H) → Nat
  | [] => 0
  | x :: r => uptoBulkEntry x + uptoBulkEntries r
def uptoBulkEntry {H : Type} : Lit × DataW H → Nat
  | (.string bytes, d) => bytes.length + uptoBulk d + 1
  | (_, d) => uptoBulk d + 1
 end
def uptoSmall : (H : Type) → List (DataW H) → Bool := fun _ ds => decide (uptoBulkAll ds ≤ 1048576)
def OpenSpec.upto (s : _root_.Go.ChangeSpec) : _root_.Go.OpenSpec := { _root_.Go.OpenSpec.ofChange s with cond := some uptoSmall }

/-- 'umpiragelaw4.ParChecks', WHERE WHAT IT READS IS OF BULK AT MOST 1048576: true; the input reads as it did. -/
def parChecksUptoRow : OpenClaim := { program := "ytcghiahmjkdmhaa", sum := "71447a00d6c629cacfb9161e772558203543bcd47a4e469d3f8ba48808230a26", func := "umpirage/umpiragelaw4.ParChecks", spec := "parChecks", plainKeys := false, apart := false, narrowed := true }
def ParChecksUptoSaid : Prop := parChecksUptoRow.holds Try.pinned (OpenSpec.upto parChecksSpec)

/-- 'umpiragelaw4.DiaChecks', WHERE WHAT IT READS IS OF BULK AT MOST 1048576: true; the input reads as it did. -/
def diaChecksUptoRow : OpenClaim := { program := "ytcghiahmjkdmhaa", sum := "71447a00d6c629cacfb9161e772558203543bcd47a4e469d3f8ba48808230a26", func := "umpirage/umpiragelaw4.DiaChecks", spec := "diaChecks", unfollowed := true, recurses := true, plainKeys := false, apart := false, narrowed := true }
def DiaChecksUptoSaid : Prop := diaChecksUptoRow.holds Try.pinned (OpenSpec.upto diaChecksSpec)

/-- 'umpiragelaw4.CardMosts', WHERE WHAT IT READS IS OF BULK AT MOST 1048576: true; the input reads as it did. -/
def cardMostsUptoRow : OpenClaim := { program := "ytcghiahmjkdmhaa", sum := "71447a00d6c629cacfb9161e772558203543bcd47a4e469d3f8ba48808230a26", func := "umpirage/umpiragelaw4.CardMosts", spec := "cardMosts", unfollowed := true, recurses := true, plainKeys := false, apart := false, narrowed := true }
def CardMostsUptoSaid : Prop := cardMostsUptoRow.holds Try.pinned (OpenSpec.upto cardMostsSpec)

/-- 'umpiragelaw4.CardMust', WHERE WHAT IT READS IS OF BULK AT MOST 1048576: true; the input reads as it did. -/
def cardMustUptoRow : OpenClaim := { program := "ytcghiahmjkdmhaa", sum := "71447a00d6c629cacfb9161e772558203543bcd47a4e469d3f8ba48808230a26", func := "umpirage/umpiragelaw4.CardMust", spec := "cardMust", unfollowed := true, recurses := true, plainKeys := false, apart := false, narrowed := true }
def CardMustUptoSaid : Prop := cardMustUptoRow.holds Try.pinned (OpenSpec.upto cardMustSpec)

/-- 'umpiragelaw4.DiaValues', WHERE WHAT IT READS IS OF BULK AT MOST 1048576: true; the input reads as it did. -/
def diaValuesUptoRow : OpenClaim := { program := "ytcghiahmjkdmhaa", sum := "71447a00d6c629cacfb9161e772558203543bcd47a4e469d3f8ba48808230a26", func := "umpirage/umpiragelaw4.DiaValues", spec := "diaValues", unfollowed := true, recurses := true, plainKeys := false, apart := false, narrowed := true }
def DiaValuesUptoSaid : Prop := diaValuesUptoRow.holds Try.pinned (OpenSpec.upto diaValuesSpec)

/-- 'umpiragelaw4.CardLeasts', WHERE WHAT IT READS IS OF BULK AT MOST 1048576: true; the input reads as it did. -/
def cardLeastsUptoRow : OpenClaim := { program := "ytcghiahmjkdmhaa", sum := "71447a00d6c629cacfb9161e772558203543bcd47a4e469d3f8ba48808230a26", func := "umpirage/umpiragelaw4.CardLeasts", spec := "cardLeasts", unfollowed := true, recurses := true, plainKeys := false, apart := false, narrowed := true }
def CardLeastsUptoSaid : Prop := cardLeastsUptoRow.holds Try.pinned (OpenSpec.upto cardLeastsSpec)

/-- 'umpiragelaw4.CardSorts', WHERE WHAT IT READS IS OF BULK AT MOST 1048576: true; the input reads as it did. -/
def cardSortsUptoRow : OpenClaim := { program := "ytcghiahmjkdmhaa", sum := "71447a00d6c629cacfb9161e772558203543bcd47a4e469d3f8ba48808230a26", func := "umpirage/umpiragelaw4.CardSorts", spec := "cardSorts", unfollowed := true, recurses := true, plainKeys := false, apart := false, narrowed := true }
def CardSortsUptoSaid : Prop := cardSortsUptoRow.holds Try.pinned (OpenSpec.upto cardSortsSpec)

/-- 'umpiragelaw4.AllCounts', WHERE WHAT IT READS IS OF BULK AT MOST 1048576: true; the input reads as it did. -/
def allCountsUptoRow : OpenClaim := { program := "ytcghiahmjkdmhaa", sum := "71447a00d6c629cacfb9161e772558203543bcd47a4e469d3f8ba48808230a26", func := "umpirage/umpiragelaw4.AllCounts", spec := "allCounts", unfollowed := true, recurses := true, plainKeys := false, apart := false, narrowed := true }
def AllCountsUptoSaid : Prop := allCountsUptoRow.holds Try.pinned (OpenSpec.upto allCountsSpec)

/-- 'umpiragelaw4.AllHalves', WHERE WHAT IT READS IS OF BULK AT MOST 1048576: true; the input reads as it did. -/
def allHalvesUptoRow : OpenClaim := { program := "ytcghiahmjkdmhaa", sum := "71447a00d6c629cacfb9161e772558203543bcd47a4e469d3f8ba48808230a26", func := "umpirage/umpiragelaw4.AllHalves", spec := "allHalves", unfollowed := true, recurses := true, plainKeys := false, apart := false, narrowed := true }
def AllHalvesUptoSaid : Prop := allHalvesUptoRow.holds Try.pinned (OpenSpec.upto allHalvesSpec)

/-- 'umpiragelaw4.WalkBreaks', WHERE WHAT IT READS IS OF BULK AT MOST 1048576: true; the input reads as it did. -/
def walkBreaksUptoRow : OpenClaim := { program := "ytcghiahmjkdmhaa", sum := "71447a00d6c629cacfb9161e772558203543bcd47a4e469d3f8ba48808230a26", func := "umpirage/umpiragelaw4.WalkBreaks", spec := "walkBreaks", unfollowed := true, recurses := true, plainKeys := false, apart := false, narrowed := true }
def WalkBreaksUptoSaid : Prop := walkBreaksUptoRow.holds Try.pinned (OpenSpec.upto walkBreaksSpec)

/-- 'umpiragelaw4.DiaCounts', WHERE WHAT IT READS IS OF BULK AT MOST 1048576: true; the input reads as it did. -/
def diaCountsUptoRow : OpenClaim := { program := "ytcghiahmjkdmhaa", sum := "71447a00d6c629cacfb9161e772558203543bcd47a4e469d3f8ba48808230a26", func := "umpirage/umpiragelaw4.DiaCounts", spec := "diaCounts", unfollowed := true, recurses := true, plainKeys := false, apart := false, narrowed := true }
def DiaCountsUptoSaid : Prop := diaCountsUptoRow.holds Try.pinned (OpenSpec.upto diaCountsSpec)

/-- 'umpiragelaw4.DiaPicks', WHERE WHAT IT READS IS OF BULK AT MOST 1048576: true; the input reads as it did. -/
def diaPicksUptoRow : OpenClaim := { program := "ytcghiahmjkdmhaa", sum := "71447a00d6c629cacfb9161e772558203543bcd47a4e469d3f8ba48808230a26", func := "umpirage/umpiragelaw4.DiaPicks", spec := "diaPicks", unfollowed := true, recurses := true, plainKeys := false, apart := false, narrowed := true }
def DiaPicksUptoSaid : Prop := diaPicksUptoRow.holds Try.pinned (OpenSpec.upto diaPicksSpec)

end Rows
end Go.Proofs.Ytcghiahmjkdmhaa
