/-
  No cell of these rows narrows 'for every input' (looked for: loops, veiled, ifaces, maps, wideKeys, modest, calm, conditions, laid).
  DERIVED. THE GIVEN ROWS OF THIS SEAT. 7 by the template 'for every input the law returns true; each argument reads behind the call as it read before'; 0 by the template 'total and deterministic' (their statements: YtanickojbgceaaaTotals.lean).
  GIVEN WITH THE SEED: the statements are not yours to turn. If you find one false, say at which input.
  Laid BY PROGRAM, IN A SANDBOX (cutbox-rows.mjs): the forced cells as the released guide's own fill.sh prints them over the translation 1b99adfeffe39b8d… (all of the seat's roots in one cut). By AI agents, Wed Nov 11 2026. No macro, syntax, notation, axiom, sorry.
-/
import Derived.Test.YtanickojbgceaaaChecked
import GoSem.Claim
import GoSem.ClaimJoined
import GoSem.ClaimMapViews
import Derived.JoinedTies
import Derived.KernelRfl
namespace Go.Proofs.Ytanickojbgceaaa
/- THE CELL 'sum', in the pinned program and in every row, IS THE sha256 OF THE DUMP (.gsa) THAT YtanickojbgceaaaProg.lean LOADS. Nothing in Lean hashes anything: it is a label: what it is worth is what the hold of that sum in a sandbox is worth. -/
noncomputable def Try.pinned : Pinned := { name := "ytanickojbgceaaa", sum := "1b99adfeffe39b8d6c71d52cb9f8e2cc95a8aa2ba9e3720100e6e54b469ee418", checked := Try.checked }
namespace Rows
def none {H : Type} : Left H := { results := [], args := [] }

/-- 'selfstablaw04.LexerScans': WHATEVER THE INPUT: true; the input reads as it did. -/
def lexerScansSpec : ChangeSpec := { name := "lexerScans", fn := fun _ => fun
  | [d] => { results := [.lit (.bool true)], args := [d] }
  | _ => none }
def lexerScansRow : OpenClaim := { program := "ytanickojbgceaaa", sum := "1b99adfeffe39b8d6c71d52cb9f8e2cc95a8aa2ba9e3720100e6e54b469ee418", func := "selfstab/selfstablaw04.LexerScans", spec := "lexerScans", inPlace := ["internal/bytealg.IndexByteString", "internal/bytealg.IndexString"], unfollowed := true, recurses := true, named := ["internal/bytealg.MaxLen"], apart := false }
def LexerScansSaid : Prop := lexerScansRow.holds Try.pinned (OpenSpec.ofChange lexerScansSpec)

/-- ITS FALSE NEIGHBOUR: 'it returns false'. Refute it at one input. -/
def lexerScansWrong : ChangeSpec := { name := "lexerScans", fn := fun _ => fun
  | [d] => { results := [.lit (.bool false)], args := [d] }
  | _ => none }
def LexerScansWrongFalsely : Prop := lexerScansRow.holds Try.pinned (OpenSpec.ofChange lexerScansWrong)

/-- 'selfstablaw04.LexerCounts': WHATEVER THE INPUT: true; the input reads as it did. -/
def lexerCountsSpec : ChangeSpec := { name := "lexerCounts", fn := fun _ => fun
  | [d1, d2] => { results := [.lit (.bool true)], args := [d1, d2] }
  | _ => none }
def lexerCountsRow : OpenClaim := { program := "ytanickojbgceaaa", sum := "1b99adfeffe39b8d6c71d52cb9f8e2cc95a8aa2ba9e3720100e6e54b469ee418", func := "selfstab/selfstablaw04.LexerCounts", spec := "lexerCounts", inPlace := ["internal/bytealg.IndexByteString", "internal/bytealg.IndexString"], unfollowed := true, recurses := true, named := ["internal/bytealg.MaxLen"], apart := false }
def LexerCountsSaid : Prop := lexerCountsRow.holds Try.pinned (OpenSpec.ofChange lexerCountsSpec)

/-- ITS FALSE NEIGHBOUR: 'it returns false'. Refute it at one input. -/
def lexerCountsWrong : ChangeSpec := { name := "lexerCounts", fn := fun _ => fun
  | [d1, d2] => { results := [.lit (.bool false)], args := [d1, d2] }
  | _ => none }
def LexerCountsWrongFalsely : Prop := lexerCountsRow.holds Try.pinned (OpenSpec.ofChange lexerCountsWrong)

/-- 'selfstablaw04.LexerLeavesBlanks': WHATEVER THE INPUT: true; the input reads as it did. -/
def lexerLeavesBlanksSpec : ChangeSpec := { name := "lexerLeavesBlanks", fn := fun _ => fun
  | [d] => { results := [.lit (.bool true)], args := [d] }
  | _ => none }
def lexerLeavesBlanksRow : OpenClaim := { program := "ytanickojbgceaaa", sum := "1b99adfeffe39b8d6c71d52cb9f8e2cc95a8aa2ba9e3720100e6e54b469ee418", func := "selfstab/selfstablaw04.LexerLeavesBlanks", spec := "lexerLeavesBlanks", inPlace := ["internal/bytealg.IndexByteString", "internal/bytealg.IndexString"], unfollowed := true, recurses := true, named := ["internal/bytealg.MaxLen"], apart := false }
def LexerLeavesBlanksSaid : Prop := lexerLeavesBlanksRow.holds Try.pinned (OpenSpec.ofChange lexerLeavesBlanksSpec)

/-- ITS FALSE NEIGHBOUR: 'it returns false'. Refute it at one input. -/
def lexerLeavesBlanksWrong : ChangeSpec := { name := "lexerLeavesBlanks", fn := fun _ => fun
  | [d] => { results := [.lit (.bool false)], args := [d] }
  | _ => none }
def LexerLeavesBlanksWrongFalsely : Prop := lexerLeavesBlanksRow.holds Try.pinned (OpenSpec.ofChange lexerLeavesBlanksWrong)

/-- 'selfstablaw04.LexerTokensStandAlone': WHATEVER THE INPUT: true; the input reads as it did. -/
def lexerTokensStandAloneSpec : ChangeSpec := { name := "lexerTokensStandAlone", fn := fun _ => fun
  | [d] => { results := [.lit (.bool true)], args := [d] }
  | _ => none }
def lexerTokensStandAloneRow : OpenClaim := { program := "ytanickojbgceaaa", sum := "1b99adfeffe39b8d6c71d52cb9f8e2cc95a8aa2ba9e3720100e6e54b469ee418", func := "selfstab/selfstablaw04.LexerTokensStandAlone", spec := "lexerTokensStandAlone", inPlace := ["internal/bytealg.IndexByteString", "internal/bytealg.IndexString"], unfollowed := true, recurses := true, named := ["internal/bytealg.MaxLen"], apart := false }
def LexerTokensStandAloneSaid : Prop := lexerTokensStandAloneRow.holds Try.pinned (OpenSpec.ofChange lexerTokensStandAloneSpec)

/-- ITS FALSE NEIGHBOUR: 'it returns false'. Refute it at one input. -/
def lexerTokensStandAloneWrong : ChangeSpec := { name := "lexerTokensStandAlone", fn := fun _ => fun
  | [d] => { results := [.lit (.bool false)], args := [d] }
  | _ => none }
def LexerTokensStandAloneWrongFalsely : Prop := lexerTokensStandAloneRow.holds Try.pinned (OpenSpec.ofChange lexerTokensStandAloneWrong)

/-- 'selfstablaw04.LexerIgnoresBlanks': WHATEVER THE INPUT: true; the input reads as it did. -/
def lexerIgnoresBlanksSpec : ChangeSpec := { name := "lexerIgnoresBlanks", fn := fun _ => fun
  | [d1, d2] => { results := [.lit (.bool true)], args := [d1, d2] }
  | _ => none }
def lexerIgnoresBlanksRow : OpenClaim := { program := "ytanickojbgceaaa", sum := "1b99adfeffe39b8d6c71d52cb9f8e2cc95a8aa2ba9e3720100e6e54b469ee418", func := "selfstab/selfstablaw04.LexerIgnoresBlanks", spec := "lexerIgnoresBlanks", inPlace := ["internal/bytealg.IndexByteString", "internal/bytealg.IndexString"], unfollowed := true, recurses := true, named := ["internal/bytealg.MaxLen"], apart := false }
def LexerIgnoresBlanksSaid : Prop := lexerIgnoresBlanksRow.holds Try.pinned (OpenSpec.ofChange lexerIgnoresBlanksSpec)

/-- ITS FALSE NEIGHBOUR: 'it returns false'. Refute it at one input. -/
def lexerIgnoresBlanksWrong : ChangeSpec := { name := "lexerIgnoresBlanks", fn := fun _ => fun
  | [d1, d2] => { results := [.lit (.bool false)], args := [d1, d2] }
  | _ => none }
def LexerIgnoresBlanksWrongFalsely : Prop := lexerIgnoresBlanksRow.holds Try.pinned (OpenSpec.ofChange lexerIgnoresBlanksWrong)

/-- 'selfstablaw04.LexerStopsAtTheError': WHATEVER THE INPUT: true; the input reads as it did. -/
def lexerStopsAtTheErrorSpec : ChangeSpec := { name := "lexerStopsAtTheError", fn := fun _ => fun
  | [d1, d2] => { results := [.lit (.bool true)], args := [d1, d2] }
  | _ => none }
def lexerStopsAtTheErrorRow : OpenClaim := { program := "ytanickojbgceaaa", sum := "1b99adfeffe39b8d6c71d52cb9f8e2cc95a8aa2ba9e3720100e6e54b469ee418", func := "selfstab/selfstablaw04.LexerStopsAtTheError", spec := "lexerStopsAtTheError", inPlace := ["internal/bytealg.IndexByteString", "internal/bytealg.IndexString"], unfollowed := true, recurses := true, named := ["internal/bytealg.MaxLen"], apart := false }
def LexerStopsAtTheErrorSaid : Prop := lexerStopsAtTheErrorRow.holds Try.pinned (OpenSpec.ofChange lexerStopsAtTheErrorSpec)

/-- ITS FALSE NEIGHBOUR: 'it returns false'. Refute it at one input. -/
def lexerStopsAtTheErrorWrong : ChangeSpec := { name := "lexerStopsAtTheError", fn := fun _ => fun
  | [d1, d2] => { results := [.lit (.bool false)], args := [d1, d2] }
  | _ => none }
def LexerStopsAtTheErrorWrongFalsely : Prop := lexerStopsAtTheErrorRow.holds Try.pinned (OpenSpec.ofChange lexerStopsAtTheErrorWrong)

/-- 'selfstablaw04.LexerKnowsWords': WHATEVER THE INPUT: true; the input reads as it did. -/
def lexerKnowsWordsSpec : ChangeSpec := { name := "lexerKnowsWords", fn := fun _ => fun
  | [d] => { results := [.lit (.bool true)], args := [d] }
  | _ => none }
def lexerKnowsWordsRow : OpenClaim := { program := "ytanickojbgceaaa", sum := "1b99adfeffe39b8d6c71d52cb9f8e2cc95a8aa2ba9e3720100e6e54b469ee418", func := "selfstab/selfstablaw04.LexerKnowsWords", spec := "lexerKnowsWords", inPlace := ["internal/bytealg.IndexByteString", "internal/bytealg.IndexString"], unfollowed := true, recurses := true, named := ["internal/bytealg.MaxLen"], apart := false }
def LexerKnowsWordsSaid : Prop := lexerKnowsWordsRow.holds Try.pinned (OpenSpec.ofChange lexerKnowsWordsSpec)

/-- ITS FALSE NEIGHBOUR: 'it returns false'. Refute it at one input. -/
def lexerKnowsWordsWrong : ChangeSpec := { name := "lexerKnowsWords", fn := fun _ => fun
  | [d] => { results := [.lit (.bool false)], args := [d] }
  | _ => none }
def LexerKnowsWordsWrongFalsely : Prop := lexerKnowsWordsRow.holds Try.pinned (OpenSpec.ofChange lexerKnowsWordsWrong)

/- THE SECOND FORM. 'bulk': how many values and letters a reading holds, each counted each time it is reached (what is shared counts as often as it is met; a slice's spare places count too). A statement '..UptoSaid' is the law's where the arguments, and the package variables that the reading takes, are together of bulk at most 1048576: NARROWER than '..Said'. Prove '..Said' where nothing that the law and all that it calls make is longer than what came in: it says more and counts as full. Else prove '..UptoSaid'. A law counts once. -/
mutual
def uptoBulk {H : Type} : DataW H → Nat
  | .lit (.string bytes) => bytes.length + 1
  | .lit _ => 1
  | .nil => 1
  | .ptr d => uptoBulk d + 1
  | .slice elems spare => uptoBulkAll elems + uptoBulkAll spare + 1
  | .agg parts => uptoBulkAll parts + 1
  | .iface _ d => uptoBulk d + 1
  | .map entries => uptoBulkEntries entries + 1
  | .held _ => 1
def uptoBulkAll {H : Type} : List (DataW H) → Nat
  | [] => 0
  | d :: r => uptoBulk d + uptoBulkAll r
def uptoBulkEntries {H : Type} : List (Lit × DataW H) → Nat
  | [] => 0
  | x :: r => uptoBulkEntry x + uptoBulkEntries r
def uptoBulkEntry {H : Type} : Lit × DataW H → Nat
  | (.string bytes, d) => bytes.length + uptoBulk d + 1
  | (_, d) => uptoBulk d + 1
 end
def uptoSmall : (H : Type) → List (DataW H) → Bool := fun _ ds => decide (uptoBulkAll ds ≤ 1048576)
def OpenSpec.upto (s : _root_.Go.ChangeSpec) : _root_.Go.OpenSpec := { _root_.Go.OpenSpec.ofChange s with cond := some uptoSmall }

/-- 'selfstablaw04.LexerScans', WHERE WHAT IT READS IS OF BULK AT MOST 1048576: true; the input reads as it did. -/
def lexerScansUptoRow : OpenClaim := { program := "ytanickojbgceaaa", sum := "1b99adfeffe39b8d6c71d52cb9f8e2cc95a8aa2ba9e3720100e6e54b469ee418", func := "selfstab/selfstablaw04.LexerScans", spec := "lexerScans", inPlace := ["internal/bytealg.IndexByteString", "internal/bytealg.IndexString"], unfollowed := true, recurses := true, named := ["internal/bytealg.MaxLen"], apart := false, narrowed := true }
def LexerScansUptoSaid : Prop := lexerScansUptoRow.holds Try.pinned (OpenSpec.upto lexerScansSpec)

/-- 'selfstablaw04.LexerCounts', WHERE WHAT IT READS IS OF BULK AT MOST 1048576: true; the input reads as it did. -/
def lexerCountsUptoRow : OpenClaim := { program := "ytanickojbgceaaa", sum := "1b99adfeffe39b8d6c71d52cb9f8e2cc95a8aa2ba9e3720100e6e54b469ee418", func := "selfstab/selfstablaw04.LexerCounts", spec := "lexerCounts", inPlace := ["internal/bytealg.IndexByteString", "internal/bytealg.IndexString"], unfollowed := true, recurses := true, named := ["internal/bytealg.MaxLen"], apart := false, narrowed := true }
def LexerCountsUptoSaid : Prop := lexerCountsUptoRow.holds Try.pinned (OpenSpec.upto lexerCountsSpec)

/-- 'selfstablaw04.LexerLeavesBlanks', WHERE WHAT IT READS IS OF BULK AT MOST 1048576: true; the input reads as it did. -/
def lexerLeavesBlanksUptoRow : OpenClaim := { program := "ytanickojbgceaaa", sum := "1b99adfeffe39b8d6c71d52cb9f8e2cc95a8aa2ba9e3720100e6e54b469ee418", func := "selfstab/selfstablaw04.LexerLeavesBlanks", spec := "lexerLeavesBlanks", inPlace := ["internal/bytealg.IndexByteString", "internal/bytealg.IndexString"], unfollowed := true, recurses := true, named := ["internal/bytealg.MaxLen"], apart := false, narrowed := true }
def LexerLeavesBlanksUptoSaid : Prop := lexerLeavesBlanksUptoRow.holds Try.pinned (OpenSpec.upto lexerLeavesBlanksSpec)

/-- 'selfstablaw04.LexerTokensStandAlone', WHERE WHAT IT READS IS OF BULK AT MOST 1048576: true; the input reads as it did. -/
def lexerTokensStandAloneUptoRow : OpenClaim := { program := "ytanickojbgceaaa", sum := "1b99adfeffe39b8d6c71d52cb9f8e2cc95a8aa2ba9e3720100e6e54b469ee418", func := "selfstab/selfstablaw04.LexerTokensStandAlone", spec := "lexerTokensStandAlone", inPlace := ["internal/bytealg.IndexByteString", "internal/bytealg.IndexString"], unfollowed := true, recurses := true, named := ["internal/bytealg.MaxLen"], apart := false, narrowed := true }
def LexerTokensStandAloneUptoSaid : Prop := lexerTokensStandAloneUptoRow.holds Try.pinned (OpenSpec.upto lexerTokensStandAloneSpec)

/-- 'selfstablaw04.LexerIgnoresBlanks', WHERE WHAT IT READS IS OF BULK AT MOST 1048576: true; the input reads as it did. -/
def lexerIgnoresBlanksUptoRow : OpenClaim := { program := "ytanickojbgceaaa", sum := "1b99adfeffe39b8d6c71d52cb9f8e2cc95a8aa2ba9e3720100e6e54b469ee418", func := "selfstab/selfstablaw04.LexerIgnoresBlanks", spec := "lexerIgnoresBlanks", inPlace := ["internal/bytealg.IndexByteString", "internal/bytealg.IndexString"], unfollowed := true, recurses := true, named := ["internal/bytealg.MaxLen"], apart := false, narrowed := true }
def LexerIgnoresBlanksUptoSaid : Prop := lexerIgnoresBlanksUptoRow.holds Try.pinned (OpenSpec.upto lexerIgnoresBlanksSpec)

/-- 'selfstablaw04.LexerStopsAtTheError', WHERE WHAT IT READS IS OF BULK AT MOST 1048576: true; the input reads as it did. -/
def lexerStopsAtTheErrorUptoRow : OpenClaim := { program := "ytanickojbgceaaa", sum := "1b99adfeffe39b8d6c71d52cb9f8e2cc95a8aa2ba9e3720100e6e54b469ee418", func := "selfstab/selfstablaw04.LexerStopsAtTheError", spec := "lexerStopsAtTheError", inPlace := ["internal/bytealg.IndexByteString", "internal/bytealg.IndexString"], unfollowed := true, recurses := true, named := ["internal/bytealg.MaxLen"], apart := false, narrowed := true }
def LexerStopsAtTheErrorUptoSaid : Prop := lexerStopsAtTheErrorUptoRow.holds Try.pinned (OpenSpec.upto lexerStopsAtTheErrorSpec)

/-- 'selfstablaw04.LexerKnowsWords', WHERE WHAT IT READS IS OF BULK AT MOST 1048576: true; the input reads as it did. -/
def lexerKnowsWordsUptoRow : OpenClaim := { program := "ytanickojbgceaaa", sum := "1b99adfeffe39b8d6c71d52cb9f8e2cc95a8aa2ba9e3720100e6e54b469ee418", func := "selfstab/selfstablaw04.LexerKnowsWords", spec := "lexerKnowsWords", inPlace := ["internal/bytealg.IndexByteString", "internal/bytealg.IndexString"], unfollowed := true, recurses := true, named := ["internal/bytealg.MaxLen"], apart := false, narrowed := true }
def LexerKnowsWordsUptoSaid : Prop := lexerKnowsWordsUptoRow.holds Try.pinned (OpenSpec.upto lexerKnowsWordsSpec)

end Rows
end Go.Proofs.Ytanickojbgceaaa
