/-
  No cell of these rows narrows 'for every input' (looked for: loops, veiled, ifaces, maps, wideKeys, modest, calm, conditions, laid).
  DERIVED. THE GIVEN ROWS OF THIS SEAT. 7 by the template 'for every input the law returns true; each argument reads behind the call as it read before'; 0 by the template 'total and deterministic' (their statements: YtbjigmgiecgolaaTotals.lean).
  GIVEN WITH THE SEED: the statements are not yours to turn. If you find one false, say at which input.
  Laid BY PROGRAM, IN A SANDBOX (cutbox-rows.mjs): the forced cells as the released guide's own fill.sh prints them over the translation 045dc6c96a873cbd… (all of the seat's roots in one cut). By AI agents, Wed Nov 11 2026. No macro, syntax, notation, axiom, sorry.
-/
import Derived.Test.YtbjigmgiecgolaaChecked
import GoSem.Claim
import GoSem.ClaimJoined
import GoSem.ClaimMapViews
import Derived.JoinedTies
import Derived.KernelRfl
namespace Go.Proofs.Ytbjigmgiecgolaa
/- THE CELL 'sum', in the pinned program and in every row, IS THE sha256 OF THE DUMP (.gsa) THAT YtbjigmgiecgolaaProg.lean LOADS. Nothing in Lean hashes anything: it is a label: what it is worth is what the hold of that sum in a sandbox is worth. -/
noncomputable def Try.pinned : Pinned := { name := "ytbjigmgiecgolaa", sum := "045dc6c96a873cbda56cc40ce4f40239393af59ab7d555b88d2c55259a4c2e2c", checked := Try.checked }
namespace Rows
def none {H : Type} : Left H := { results := [], args := [] }

/-- 'selfstablaw05.TermMeasures': WHATEVER THE INPUT: true; the input reads as it did. -/
def termMeasuresSpec : ChangeSpec := { name := "termMeasures", fn := fun _ => fun
  | [d1, d2, d3, d4] => { results := [.lit (.bool true)], args := [d1, d2, d3, d4] }
  | _ => none }
def termMeasuresRow : OpenClaim := { program := "ytbjigmgiecgolaa", sum := "045dc6c96a873cbda56cc40ce4f40239393af59ab7d555b88d2c55259a4c2e2c", func := "selfstab/selfstablaw05.TermMeasures", spec := "termMeasures", unfollowed := true, recurses := true, apart := false }
def TermMeasuresSaid : Prop := termMeasuresRow.holds Try.pinned (OpenSpec.ofChange termMeasuresSpec)

/-- ITS FALSE NEIGHBOUR: 'it returns false'. Refute it at one input. -/
def termMeasuresWrong : ChangeSpec := { name := "termMeasures", fn := fun _ => fun
  | [d1, d2, d3, d4] => { results := [.lit (.bool false)], args := [d1, d2, d3, d4] }
  | _ => none }
def TermMeasuresWrongFalsely : Prop := termMeasuresRow.holds Try.pinned (OpenSpec.ofChange termMeasuresWrong)

/-- 'selfstablaw05.TermOperandsFollow': WHATEVER THE INPUT: true; the input reads as it did. -/
def termOperandsFollowSpec : ChangeSpec := { name := "termOperandsFollow", fn := fun _ => fun
  | [d] => { results := [.lit (.bool true)], args := [d] }
  | _ => none }
def termOperandsFollowRow : OpenClaim := { program := "ytbjigmgiecgolaa", sum := "045dc6c96a873cbda56cc40ce4f40239393af59ab7d555b88d2c55259a4c2e2c", func := "selfstab/selfstablaw05.TermOperandsFollow", spec := "termOperandsFollow", unfollowed := true, recurses := true, apart := false }
def TermOperandsFollowSaid : Prop := termOperandsFollowRow.holds Try.pinned (OpenSpec.ofChange termOperandsFollowSpec)

/-- ITS FALSE NEIGHBOUR: 'it returns false'. Refute it at one input. -/
def termOperandsFollowWrong : ChangeSpec := { name := "termOperandsFollow", fn := fun _ => fun
  | [d] => { results := [.lit (.bool false)], args := [d] }
  | _ => none }
def TermOperandsFollowWrongFalsely : Prop := termOperandsFollowRow.holds Try.pinned (OpenSpec.ofChange termOperandsFollowWrong)

/-- 'selfstablaw05.TermPartsAreValid': WHATEVER THE INPUT: true; the input reads as it did. -/
def termPartsAreValidSpec : ChangeSpec := { name := "termPartsAreValid", fn := fun _ => fun
  | [d1, d2] => { results := [.lit (.bool true)], args := [d1, d2] }
  | _ => none }
def termPartsAreValidRow : OpenClaim := { program := "ytbjigmgiecgolaa", sum := "045dc6c96a873cbda56cc40ce4f40239393af59ab7d555b88d2c55259a4c2e2c", func := "selfstab/selfstablaw05.TermPartsAreValid", spec := "termPartsAreValid", unfollowed := true, recurses := true, apart := false }
def TermPartsAreValidSaid : Prop := termPartsAreValidRow.holds Try.pinned (OpenSpec.ofChange termPartsAreValidSpec)

/-- ITS FALSE NEIGHBOUR: 'it returns false'. Refute it at one input. -/
def termPartsAreValidWrong : ChangeSpec := { name := "termPartsAreValid", fn := fun _ => fun
  | [d1, d2] => { results := [.lit (.bool false)], args := [d1, d2] }
  | _ => none }
def TermPartsAreValidWrongFalsely : Prop := termPartsAreValidRow.holds Try.pinned (OpenSpec.ofChange termPartsAreValidWrong)

/-- 'selfstablaw05.TermGrows': WHATEVER THE INPUT: true; the input reads as it did. -/
def termGrowsSpec : ChangeSpec := { name := "termGrows", fn := fun _ => fun
  | [d1, d2, d3, d4] => { results := [.lit (.bool true)], args := [d1, d2, d3, d4] }
  | _ => none }
def termGrowsRow : OpenClaim := { program := "ytbjigmgiecgolaa", sum := "045dc6c96a873cbda56cc40ce4f40239393af59ab7d555b88d2c55259a4c2e2c", func := "selfstab/selfstablaw05.TermGrows", spec := "termGrows", unfollowed := true, recurses := true, apart := false }
def TermGrowsSaid : Prop := termGrowsRow.holds Try.pinned (OpenSpec.ofChange termGrowsSpec)

/-- ITS FALSE NEIGHBOUR: 'it returns false'. Refute it at one input. -/
def termGrowsWrong : ChangeSpec := { name := "termGrows", fn := fun _ => fun
  | [d1, d2, d3, d4] => { results := [.lit (.bool false)], args := [d1, d2, d3, d4] }
  | _ => none }
def TermGrowsWrongFalsely : Prop := termGrowsRow.holds Try.pinned (OpenSpec.ofChange termGrowsWrong)

/-- 'selfstablaw05.TermCutsAreIncomplete': WHATEVER THE INPUT: true; the input reads as it did. -/
def termCutsAreIncompleteSpec : ChangeSpec := { name := "termCutsAreIncomplete", fn := fun _ => fun
  | [d1, d2, d3] => { results := [.lit (.bool true)], args := [d1, d2, d3] }
  | _ => none }
def termCutsAreIncompleteRow : OpenClaim := { program := "ytbjigmgiecgolaa", sum := "045dc6c96a873cbda56cc40ce4f40239393af59ab7d555b88d2c55259a4c2e2c", func := "selfstab/selfstablaw05.TermCutsAreIncomplete", spec := "termCutsAreIncomplete", unfollowed := true, recurses := true, apart := false }
def TermCutsAreIncompleteSaid : Prop := termCutsAreIncompleteRow.holds Try.pinned (OpenSpec.ofChange termCutsAreIncompleteSpec)

/-- ITS FALSE NEIGHBOUR: 'it returns false'. Refute it at one input. -/
def termCutsAreIncompleteWrong : ChangeSpec := { name := "termCutsAreIncomplete", fn := fun _ => fun
  | [d1, d2, d3] => { results := [.lit (.bool false)], args := [d1, d2, d3] }
  | _ => none }
def TermCutsAreIncompleteWrongFalsely : Prop := termCutsAreIncompleteRow.holds Try.pinned (OpenSpec.ofChange termCutsAreIncompleteWrong)

/-- 'selfstablaw05.TermChecks': WHATEVER THE INPUT: true; the input reads as it did. -/
def termChecksSpec : ChangeSpec := { name := "termChecks", fn := fun _ => fun
  | [d1, d2, d3] => { results := [.lit (.bool true)], args := [d1, d2, d3] }
  | _ => none }
def termChecksRow : OpenClaim := { program := "ytbjigmgiecgolaa", sum := "045dc6c96a873cbda56cc40ce4f40239393af59ab7d555b88d2c55259a4c2e2c", func := "selfstab/selfstablaw05.TermChecks", spec := "termChecks", unfollowed := true, recurses := true, apart := false }
def TermChecksSaid : Prop := termChecksRow.holds Try.pinned (OpenSpec.ofChange termChecksSpec)

/-- ITS FALSE NEIGHBOUR: 'it returns false'. Refute it at one input. -/
def termChecksWrong : ChangeSpec := { name := "termChecks", fn := fun _ => fun
  | [d1, d2, d3] => { results := [.lit (.bool false)], args := [d1, d2, d3] }
  | _ => none }
def TermChecksWrongFalsely : Prop := termChecksRow.holds Try.pinned (OpenSpec.ofChange termChecksWrong)

/-- 'selfstablaw05.TermRenamesBack': WHATEVER THE INPUT: true; the input reads as it did. -/
def termRenamesBackSpec : ChangeSpec := { name := "termRenamesBack", fn := fun _ => fun
  | [d1, d2] => { results := [.lit (.bool true)], args := [d1, d2] }
  | _ => none }
def termRenamesBackRow : OpenClaim := { program := "ytbjigmgiecgolaa", sum := "045dc6c96a873cbda56cc40ce4f40239393af59ab7d555b88d2c55259a4c2e2c", func := "selfstab/selfstablaw05.TermRenamesBack", spec := "termRenamesBack", unfollowed := true, recurses := true, apart := false }
def TermRenamesBackSaid : Prop := termRenamesBackRow.holds Try.pinned (OpenSpec.ofChange termRenamesBackSpec)

/-- ITS FALSE NEIGHBOUR: 'it returns false'. Refute it at one input. -/
def termRenamesBackWrong : ChangeSpec := { name := "termRenamesBack", fn := fun _ => fun
  | [d1, d2] => { results := [.lit (.bool false)], args := [d1, d2] }
  | _ => none }
def TermRenamesBackWrongFalsely : Prop := termRenamesBackRow.holds Try.pinned (OpenSpec.ofChange termRenamesBackWrong)

/- THE SECOND FORM. 'bulk': how many values and letters a reading holds, each counted each time it is reached (what is shared counts as often as it is met; a slice's spare places count too). A statement '..UptoSaid' is the law's where the arguments, and the package variables that the reading takes, are together of bulk at most 1048576: NARROWER than '..Said'. Prove '..Said' where nothing that the law and all that it calls make is longer than what came in: it says more and counts as full. Else prove '..UptoSaid'. A law counts once. -/
mutual
def uptoBulk {H : Type} : DataW H → Nat
  | .lit (.string bytes) => bytes.length + 1
  | .lit _ => 1
  | .nil => 1
  | .ptr d => uptoBulk d + 1
  | .slice elems spare => uptoBulkAll elems + uptoBulkAll spare + 1
  | .agg parts => uptoBulkAll parts + 1
  | .iface _ d => uptoBulk d + 1
  | .map entries => uptoBulkEntries entries + 1
  | .held _ => 1
def uptoBulkAll {H : Type} : List (DataW H) → Nat
  | [] => 0
  | d :: r => uptoBulk d + uptoBulkAll r
def uptoBulkEntries {H : Type} : List (Lit × DataW H) → Nat
  | [] => 0
  | x :: r => uptoBulkEntry x + uptoBulkEntries r
def uptoBulkEntry {H : Type} : Lit × DataW H → Nat
  | (.string bytes, d) => bytes.length + uptoBulk d + 1
  | (_, d) => uptoBulk d + 1
 end
def uptoSmall : (H : Type) → List (DataW H) → Bool := fun _ ds => decide (uptoBulkAll ds ≤ 1048576)
def OpenSpec.upto (s : _root_.Go.ChangeSpec) : _root_.Go.OpenSpec := { _root_.Go.OpenSpec.ofChange s with cond := some uptoSmall }

/-- 'selfstablaw05.TermMeasures', WHERE WHAT IT READS IS OF BULK AT MOST 1048576: true; the input reads as it did. -/
def termMeasuresUptoRow : OpenClaim := { program := "ytbjigmgiecgolaa", sum := "045dc6c96a873cbda56cc40ce4f40239393af59ab7d555b88d2c55259a4c2e2c", func := "selfstab/selfstablaw05.TermMeasures", spec := "termMeasures", unfollowed := true, recurses := true, apart := false, narrowed := true }
def TermMeasuresUptoSaid : Prop := termMeasuresUptoRow.holds Try.pinned (OpenSpec.upto termMeasuresSpec)

/-- 'selfstablaw05.TermOperandsFollow', WHERE WHAT IT READS IS OF BULK AT MOST 1048576: true; the input reads as it did. -/
def termOperandsFollowUptoRow : OpenClaim := { program := "ytbjigmgiecgolaa", sum := "045dc6c96a873cbda56cc40ce4f40239393af59ab7d555b88d2c55259a4c2e2c", func := "selfstab/selfstablaw05.TermOperandsFollow", spec := "termOperandsFollow", unfollowed := true, recurses := true, apart := false, narrowed := true }
def TermOperandsFollowUptoSaid : Prop := termOperandsFollowUptoRow.holds Try.pinned (OpenSpec.upto termOperandsFollowSpec)

/-- 'selfstablaw05.TermPartsAreValid', WHERE WHAT IT READS IS OF BULK AT MOST 1048576: true; the input reads as it did. -/
def termPartsAreValidUptoRow : OpenClaim := { program := "ytbjigmgiecgolaa", sum := "045dc6c96a873cbda56cc40ce4f40239393af59ab7d555b88d2c55259a4c2e2c", func := "selfstab/selfstablaw05.TermPartsAreValid", spec := "termPartsAreValid", unfollowed := true, recurses := true, apart := false, narrowed := true }
def TermPartsAreValidUptoSaid : Prop := termPartsAreValidUptoRow.holds Try.pinned (OpenSpec.upto termPartsAreValidSpec)

/-- 'selfstablaw05.TermGrows', WHERE WHAT IT READS IS OF BULK AT MOST 1048576: true; the input reads as it did. -/
def termGrowsUptoRow : OpenClaim := { program := "ytbjigmgiecgolaa", sum := "045dc6c96a873cbda56cc40ce4f40239393af59ab7d555b88d2c55259a4c2e2c", func := "selfstab/selfstablaw05.TermGrows", spec := "termGrows", unfollowed := true, recurses := true, apart := false, narrowed := true }
def TermGrowsUptoSaid : Prop := termGrowsUptoRow.holds Try.pinned (OpenSpec.upto termGrowsSpec)

/-- 'selfstablaw05.TermCutsAreIncomplete', WHERE WHAT IT READS IS OF BULK AT MOST 1048576: true; the input reads as it did. -/
def termCutsAreIncompleteUptoRow : OpenClaim := { program := "ytbjigmgiecgolaa", sum := "045dc6c96a873cbda56cc40ce4f40239393af59ab7d555b88d2c55259a4c2e2c", func := "selfstab/selfstablaw05.TermCutsAreIncomplete", spec := "termCutsAreIncomplete", unfollowed := true, recurses := true, apart := false, narrowed := true }
def TermCutsAreIncompleteUptoSaid : Prop := termCutsAreIncompleteUptoRow.holds Try.pinned (OpenSpec.upto termCutsAreIncompleteSpec)

/-- 'selfstablaw05.TermChecks', WHERE WHAT IT READS IS OF BULK AT MOST 1048576: true; the input reads as it did. -/
def termChecksUptoRow : OpenClaim := { program := "ytbjigmgiecgolaa", sum := "045dc6c96a873cbda56cc40ce4f40239393af59ab7d555b88d2c55259a4c2e2c", func := "selfstab/selfstablaw05.TermChecks", spec := "termChecks", unfollowed := true, recurses := true, apart := false, narrowed := true }
def TermChecksUptoSaid : Prop := termChecksUptoRow.holds Try.pinned (OpenSpec.upto termChecksSpec)

/-- 'selfstablaw05.TermRenamesBack', WHERE WHAT IT READS IS OF BULK AT MOST 1048576: true; the input reads as it did. -/
def termRenamesBackUptoRow : OpenClaim := { program := "ytbjigmgiecgolaa", sum := "045dc6c96a873cbda56cc40ce4f40239393af59ab7d555b88d2c55259a4c2e2c", func := "selfstab/selfstablaw05.TermRenamesBack", spec := "termRenamesBack", unfollowed := true, recurses := true, apart := false, narrowed := true }
def TermRenamesBackUptoSaid : Prop := termRenamesBackUptoRow.holds Try.pinned (OpenSpec.upto termRenamesBackSpec)

end Rows
end Go.Proofs.Ytbjigmgiecgolaa
