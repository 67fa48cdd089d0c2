/-
  DERIVED. GIVEN WITH THE SEED: THE CARDS: each row of YtinfejpkjddbiaaDoorRows.lean that lists a variable, with what it lists TIED to the program's text (the seventh form; the later family's looks); each row that meets fmt, with fmt's text TOLD by the authors' own Lean function (tested against real Go, not proved from fmt's source: count such statements apart). THE CARD IS WHAT COUNTS. Prove the row's statement (the work); the ties are given (YtinfejpkjddbiaaDoorTie.lean); close each card by the builder's one call (the guide's Derived/Test/ToyasCard.lean, 'card_holds'). Laid BY PROGRAM, IN A SANDBOX (cutbox-door.mjs). By AI agents, Wed Nov 11 2026. No macro, syntax, notation, axiom, sorry.
-/
import Derived.Test.YtinfejpkjddbiaaDoorRows
import GoSem.ClaimSeven
namespace Go.Proofs.YtinfejpkjddbiaaDoor
namespace Rows

/-- THE TIED CARD OF 'selfstablaw02.GraphtextParses'. -/
def graphtextParsesCard : Claim7 := { stood := { row := graphtextParsesRow, standIns := [], harness := (true, "1f7c36e51f64e0680c514c30c13006bdd3914dc17774c06d149eaa061d4a5cf0"), looks := false }, kinds := [], alts := [], laidByText := true, laidKinds := [.data, .pinned], laidTests := true, laidLooks := .later }
def GraphtextParsesCardSaid : Prop := Claim7.holds Tryd.pinned (.plain (OpenSpec.ofChange graphtextParsesSpec)) graphtextParsesCard

/-- THE TIED CARD OF 'selfstablaw02.GraphtextNamesTheLine'. -/
def graphtextNamesTheLineCard : Claim7 := { stood := { row := graphtextNamesTheLineRow, standIns := [], harness := (true, "1f7c36e51f64e0680c514c30c13006bdd3914dc17774c06d149eaa061d4a5cf0"), looks := false }, kinds := [], alts := [], laidByText := true, laidKinds := [.data, .pinned], laidTests := true, laidLooks := .later }
def GraphtextNamesTheLineCardSaid : Prop := Claim7.holds Tryd.pinned (.plain (OpenSpec.ofChange graphtextNamesTheLineSpec)) graphtextNamesTheLineCard

/-- THE TIED CARD OF 'selfstablaw02.GraphtextFormats'. -/
def graphtextFormatsCard : Claim7 := { stood := { row := graphtextFormatsRow, standIns := [], harness := (true, "1f7c36e51f64e0680c514c30c13006bdd3914dc17774c06d149eaa061d4a5cf0"), looks := false }, kinds := [], alts := [], laidByText := true, laidKinds := [.data, .data, .data, .data, .pinned], laidTests := true, laidLooks := .later }
def GraphtextFormatsCardSaid : Prop := Claim7.holds Tryd.pinned (.plain (OpenSpec.ofChange graphtextFormatsSpec)) graphtextFormatsCard

/-- THE TIED CARD OF 'selfstablaw02.GraphtextReadsBack'. -/
def graphtextReadsBackCard : Claim7 := { stood := { row := graphtextReadsBackRow, standIns := [], harness := (true, "1f7c36e51f64e0680c514c30c13006bdd3914dc17774c06d149eaa061d4a5cf0"), looks := false }, kinds := [], alts := [], laidByText := true, laidKinds := [.data, .data, .data, .data, .pinned], laidTests := true, laidLooks := .later }
def GraphtextReadsBackCardSaid : Prop := Claim7.holds Tryd.pinned (.plain (OpenSpec.ofChange graphtextReadsBackSpec)) graphtextReadsBackCard

/-- THE TIED CARD OF 'selfstablaw02.GraphtextWritesBack'. -/
def graphtextWritesBackCard : Claim7 := { stood := { row := graphtextWritesBackRow, standIns := [], harness := (true, "1f7c36e51f64e0680c514c30c13006bdd3914dc17774c06d149eaa061d4a5cf0"), looks := false }, kinds := [], alts := [], laidByText := true, laidKinds := [.data, .data, .data, .data, .pinned], laidTests := true, laidLooks := .later }
def GraphtextWritesBackCardSaid : Prop := Claim7.holds Tryd.pinned (.plain (OpenSpec.ofChange graphtextWritesBackSpec)) graphtextWritesBackCard

/-- THE TIED CARD OF 'selfstablaw02.GraphtextTellsGraphsApart'. -/
def graphtextTellsGraphsApartCard : Claim7 := { stood := { row := graphtextTellsGraphsApartRow, standIns := [], harness := (true, "1f7c36e51f64e0680c514c30c13006bdd3914dc17774c06d149eaa061d4a5cf0"), looks := false }, kinds := [], alts := [], laidByText := true, laidKinds := [.data, .data, .data, .data, .pinned], laidTests := true, laidLooks := .later }
def GraphtextTellsGraphsApartCardSaid : Prop := Claim7.holds Tryd.pinned (.plain (OpenSpec.ofChange graphtextTellsGraphsApartSpec)) graphtextTellsGraphsApartCard

/-- THE SECOND FORM's CARD OF 'selfstablaw02.GraphtextParses'. -/
def graphtextParsesUptoCard : Claim7 := { stood := { row := graphtextParsesUptoRow, standIns := [], harness := (true, "1f7c36e51f64e0680c514c30c13006bdd3914dc17774c06d149eaa061d4a5cf0"), looks := false }, kinds := [], alts := [], laidByText := true, laidKinds := [.data, .pinned], laidTests := true, laidLooks := .later }
def GraphtextParsesUptoCardSaid : Prop := Claim7.holds Tryd.pinned (.plain (OpenSpec.upto graphtextParsesSpec)) graphtextParsesUptoCard

/-- THE SECOND FORM's CARD OF 'selfstablaw02.GraphtextNamesTheLine'. -/
def graphtextNamesTheLineUptoCard : Claim7 := { stood := { row := graphtextNamesTheLineUptoRow, standIns := [], harness := (true, "1f7c36e51f64e0680c514c30c13006bdd3914dc17774c06d149eaa061d4a5cf0"), looks := false }, kinds := [], alts := [], laidByText := true, laidKinds := [.data, .pinned], laidTests := true, laidLooks := .later }
def GraphtextNamesTheLineUptoCardSaid : Prop := Claim7.holds Tryd.pinned (.plain (OpenSpec.upto graphtextNamesTheLineSpec)) graphtextNamesTheLineUptoCard

/-- THE SECOND FORM's CARD OF 'selfstablaw02.GraphtextFormats'. -/
def graphtextFormatsUptoCard : Claim7 := { stood := { row := graphtextFormatsUptoRow, standIns := [], harness := (true, "1f7c36e51f64e0680c514c30c13006bdd3914dc17774c06d149eaa061d4a5cf0"), looks := false }, kinds := [], alts := [], laidByText := true, laidKinds := [.data, .data, .data, .data, .pinned], laidTests := true, laidLooks := .later }
def GraphtextFormatsUptoCardSaid : Prop := Claim7.holds Tryd.pinned (.plain (OpenSpec.upto graphtextFormatsSpec)) graphtextFormatsUptoCard

/-- THE SECOND FORM's CARD OF 'selfstablaw02.GraphtextReadsBack'. -/
def graphtextReadsBackUptoCard : Claim7 := { stood := { row := graphtextReadsBackUptoRow, standIns := [], harness := (true, "1f7c36e51f64e0680c514c30c13006bdd3914dc17774c06d149eaa061d4a5cf0"), looks := false }, kinds := [], alts := [], laidByText := true, laidKinds := [.data, .data, .data, .data, .pinned], laidTests := true, laidLooks := .later }
def GraphtextReadsBackUptoCardSaid : Prop := Claim7.holds Tryd.pinned (.plain (OpenSpec.upto graphtextReadsBackSpec)) graphtextReadsBackUptoCard

/-- THE SECOND FORM's CARD OF 'selfstablaw02.GraphtextWritesBack'. -/
def graphtextWritesBackUptoCard : Claim7 := { stood := { row := graphtextWritesBackUptoRow, standIns := [], harness := (true, "1f7c36e51f64e0680c514c30c13006bdd3914dc17774c06d149eaa061d4a5cf0"), looks := false }, kinds := [], alts := [], laidByText := true, laidKinds := [.data, .data, .data, .data, .pinned], laidTests := true, laidLooks := .later }
def GraphtextWritesBackUptoCardSaid : Prop := Claim7.holds Tryd.pinned (.plain (OpenSpec.upto graphtextWritesBackSpec)) graphtextWritesBackUptoCard

/-- THE SECOND FORM's CARD OF 'selfstablaw02.GraphtextTellsGraphsApart'. -/
def graphtextTellsGraphsApartUptoCard : Claim7 := { stood := { row := graphtextTellsGraphsApartUptoRow, standIns := [], harness := (true, "1f7c36e51f64e0680c514c30c13006bdd3914dc17774c06d149eaa061d4a5cf0"), looks := false }, kinds := [], alts := [], laidByText := true, laidKinds := [.data, .data, .data, .data, .pinned], laidTests := true, laidLooks := .later }
def GraphtextTellsGraphsApartUptoCardSaid : Prop := Claim7.holds Tryd.pinned (.plain (OpenSpec.upto graphtextTellsGraphsApartSpec)) graphtextTellsGraphsApartUptoCard
end Rows
end Go.Proofs.YtinfejpkjddbiaaDoor
