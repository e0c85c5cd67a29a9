/-
  DERIVED. GIVEN WITH THE SEED: THE CARDS: each row of YtfhpppibiemhkaaDoorRows.lean that lists a variable, with what it lists TIED to the program's text (the seventh form; the later family's looks); each row that meets fmt, with fmt's text TOLD by the authors' own Lean function (tested against real Go, not proved from fmt's source: count such statements apart). THE CARD IS WHAT COUNTS. Prove the row's statement (the work); the ties are given (YtfhpppibiemhkaaDoorTie.lean); close each card by the builder's one call (the guide's Derived/Test/ToyasCard.lean, 'card_holds'). Laid BY PROGRAM, IN A SANDBOX (cutbox-door.mjs). By AI agents, Wed Nov 11 2026. No macro, syntax, notation, axiom, sorry.
-/
import Derived.Test.YtfhpppibiemhkaaDoorRows
import GoSem.ClaimSeven
namespace Go.Proofs.YtfhpppibiemhkaaDoor
namespace Rows

/-- THE TIED CARD OF 'jitneylaw03.DeciWords'. -/
def deciWordsCard : Claim7 := { stood := { row := deciWordsRow, standIns := [], harness := (true, "990a07376cd0e3911a413af25b0599aa5ebf1644a324f134cafe19d3b4ce236b"), looks := false }, kinds := [], alts := [], laidByText := true, laidKinds := [.data, .data, .data, .data, .pinned], laidTests := true, laidLooks := .later }
def DeciWordsCardSaid : Prop := Claim7.holds Tryd.pinned (.plain (OpenSpec.ofChange deciWordsSpec)) deciWordsCard

/-- THE TIED CARD OF 'jitneylaw03.DeciBack'. -/
def deciBackCard : Claim7 := { stood := { row := deciBackRow, standIns := [], harness := (true, "990a07376cd0e3911a413af25b0599aa5ebf1644a324f134cafe19d3b4ce236b"), looks := false }, kinds := [], alts := [], laidByText := true, laidKinds := [.data, .data, .data, .data, .pinned], laidTests := true, laidLooks := .later }
def DeciBackCardSaid : Prop := Claim7.holds Tryd.pinned (.plain (OpenSpec.ofChange deciBackSpec)) deciBackCard

/-- THE TIED CARD OF 'jitneylaw03.DeciScales'. -/
def deciScalesCard : Claim7 := { stood := { row := deciScalesRow, standIns := [], harness := (true, "990a07376cd0e3911a413af25b0599aa5ebf1644a324f134cafe19d3b4ce236b"), looks := false }, kinds := [], alts := [], laidByText := true, laidKinds := [.data, .data, .data, .data, .pinned], laidTests := true, laidLooks := .later }
def DeciScalesCardSaid : Prop := Claim7.holds Tryd.pinned (.plain (OpenSpec.ofChange deciScalesSpec)) deciScalesCard

/-- THE TIED CARD OF 'jitneylaw03.DeciLines'. -/
def deciLinesCard : Claim7 := { stood := { row := deciLinesRow, standIns := [], harness := (true, "990a07376cd0e3911a413af25b0599aa5ebf1644a324f134cafe19d3b4ce236b"), looks := false }, kinds := [], alts := [], laidByText := true, laidKinds := [.data, .data, .data, .data, .pinned], laidTests := true, laidLooks := .later }
def DeciLinesCardSaid : Prop := Claim7.holds Tryd.pinned (.plain (OpenSpec.ofChange deciLinesSpec)) deciLinesCard

/-- THE TIED CARD OF 'jitneylaw03.DeciReads'. -/
def deciReadsCard : Claim7 := { stood := { row := deciReadsRow, standIns := [], harness := (true, "990a07376cd0e3911a413af25b0599aa5ebf1644a324f134cafe19d3b4ce236b"), looks := false }, kinds := [], alts := [], laidByText := true, laidKinds := [.data, .data, .data, .data, .pinned], laidTests := true, laidLooks := .later }
def DeciReadsCardSaid : Prop := Claim7.holds Tryd.pinned (.plain (OpenSpec.ofChange deciReadsSpec)) deciReadsCard

/-- THE SECOND FORM's CARD OF 'jitneylaw03.DeciWords'. -/
def deciWordsUptoCard : Claim7 := { stood := { row := deciWordsUptoRow, standIns := [], harness := (true, "990a07376cd0e3911a413af25b0599aa5ebf1644a324f134cafe19d3b4ce236b"), looks := false }, kinds := [], alts := [], laidByText := true, laidKinds := [.data, .data, .data, .data, .pinned], laidTests := true, laidLooks := .later }
def DeciWordsUptoCardSaid : Prop := Claim7.holds Tryd.pinned (.plain (OpenSpec.upto deciWordsSpec)) deciWordsUptoCard

/-- THE SECOND FORM's CARD OF 'jitneylaw03.DeciBack'. -/
def deciBackUptoCard : Claim7 := { stood := { row := deciBackUptoRow, standIns := [], harness := (true, "990a07376cd0e3911a413af25b0599aa5ebf1644a324f134cafe19d3b4ce236b"), looks := false }, kinds := [], alts := [], laidByText := true, laidKinds := [.data, .data, .data, .data, .pinned], laidTests := true, laidLooks := .later }
def DeciBackUptoCardSaid : Prop := Claim7.holds Tryd.pinned (.plain (OpenSpec.upto deciBackSpec)) deciBackUptoCard

/-- THE SECOND FORM's CARD OF 'jitneylaw03.DeciScales'. -/
def deciScalesUptoCard : Claim7 := { stood := { row := deciScalesUptoRow, standIns := [], harness := (true, "990a07376cd0e3911a413af25b0599aa5ebf1644a324f134cafe19d3b4ce236b"), looks := false }, kinds := [], alts := [], laidByText := true, laidKinds := [.data, .data, .data, .data, .pinned], laidTests := true, laidLooks := .later }
def DeciScalesUptoCardSaid : Prop := Claim7.holds Tryd.pinned (.plain (OpenSpec.upto deciScalesSpec)) deciScalesUptoCard

/-- THE SECOND FORM's CARD OF 'jitneylaw03.DeciLines'. -/
def deciLinesUptoCard : Claim7 := { stood := { row := deciLinesUptoRow, standIns := [], harness := (true, "990a07376cd0e3911a413af25b0599aa5ebf1644a324f134cafe19d3b4ce236b"), looks := false }, kinds := [], alts := [], laidByText := true, laidKinds := [.data, .data, .data, .data, .pinned], laidTests := true, laidLooks := .later }
def DeciLinesUptoCardSaid : Prop := Claim7.holds Tryd.pinned (.plain (OpenSpec.upto deciLinesSpec)) deciLinesUptoCard

/-- THE SECOND FORM's CARD OF 'jitneylaw03.DeciReads'. -/
def deciReadsUptoCard : Claim7 := { stood := { row := deciReadsUptoRow, standIns := [], harness := (true, "990a07376cd0e3911a413af25b0599aa5ebf1644a324f134cafe19d3b4ce236b"), looks := false }, kinds := [], alts := [], laidByText := true, laidKinds := [.data, .data, .data, .data, .pinned], laidTests := true, laidLooks := .later }
def DeciReadsUptoCardSaid : Prop := Claim7.holds Tryd.pinned (.plain (OpenSpec.upto deciReadsSpec)) deciReadsUptoCard
end Rows
end Go.Proofs.YtfhpppibiemhkaaDoor
