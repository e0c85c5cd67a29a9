/-
  DERIVED. GIVEN WITH THE SEED: THE CARDS: each row of YtcdmndhaeiccoaaGreatDoorRows.lean that lists a variable, with what it lists TIED to the program's text (the seventh form; the later family's looks); each row that meets fmt, with fmt's text TOLD by the authors' own Lean function (tested against real Go, not proved from fmt's source: count such statements apart). THE CARD IS WHAT COUNTS. Prove the row's statement (the work); the ties are given (YtcdmndhaeiccoaaGreatDoorTie.lean); close each card by the builder's one call (the guide's Derived/Test/ToyasCard.lean, 'card_holds'). Laid BY PROGRAM, IN A SANDBOX (cutbox-door.mjs). By AI agents, Wed Nov 11 2026. No macro, syntax, notation, axiom, sorry.
-/
import Derived.Test.YtcdmndhaeiccoaaGreatDoorRows
import GoSem.ClaimSeven
namespace Go.Proofs.YtcdmndhaeiccoaaGreatDoor
namespace Rows

/-- THE TIED CARD OF 'jitneylaw06.SheetParses'. -/
def sheetParsesCard : Claim7 := { stood := { row := sheetParsesRow, standIns := [], harness := (true, "42e5d19fa27e772232d05e104966616f4375b907d29b6456bbf6cb6d7a1ef0c7"), looks := true }, kinds := [], alts := [], laidByText := true, laidKinds := [.data, .data, .data, .data, .pinned], laidTests := true, laidLooks := .later }
def SheetParsesCardSaid : Prop := Claim7.holds Tryz.pinned (.plain (OpenSpec.ofChange sheetParsesSpec)) sheetParsesCard

/-- THE SECOND FORM's CARD OF 'jitneylaw06.SheetParses'. -/
def sheetParsesUptoCard : Claim7 := { stood := { row := sheetParsesUptoRow, standIns := [], harness := (true, "42e5d19fa27e772232d05e104966616f4375b907d29b6456bbf6cb6d7a1ef0c7"), looks := true }, kinds := [], alts := [], laidByText := true, laidKinds := [.data, .data, .data, .data, .pinned], laidTests := true, laidLooks := .later }
def SheetParsesUptoCardSaid : Prop := Claim7.holds Tryz.pinned (.plain (OpenSpec.upto sheetParsesSpec)) sheetParsesUptoCard
end Rows
end Go.Proofs.YtcdmndhaeiccoaaGreatDoor
