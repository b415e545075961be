/-
  DERIVED. GIVEN WITH THE SEED: THE CARDS: each row of YtgfbealjkdhdbaaGreatDoorRows.lean that lists a variable, with what it lists TIED to the program's text (the seventh form; the later family's looks); each row that meets fmt, with fmt's text TOLD by the authors' own Lean function (tested against real Go, not proved from fmt's source: count such statements apart). THE CARD IS WHAT COUNTS. Prove the row's statement (the work); the ties are given (YtgfbealjkdhdbaaGreatDoorTie.lean); close each card by the builder's one call (the guide's Derived/Test/ToyasCard.lean, 'card_holds'). Laid BY PROGRAM, IN A SANDBOX (cutbox-door.mjs). By AI agents, Wed Nov 11 2026. No macro, syntax, notation, axiom, sorry.
-/
import Derived.Test.YtgfbealjkdhdbaaGreatDoorRows
import GoSem.ClaimSeven
namespace Go.Proofs.YtgfbealjkdhdbaaGreatDoor
namespace Rows

/-- THE TIED CARD OF 'indenturelaw27.ClientTexts'. -/
def clientTextsCard : Claim7 := { stood := { row := clientTextsRow, standIns := [], harness := (true, "037f422cb68855a965c19dc3e74e8d0de4a74691a77d4cb25bc3f449c6ac32aa"), looks := true }, kinds := [], alts := [], laidByText := true, laidKinds := [.data, .data, .data, .data, .sentinel, .sentinel, .pinned, .pinned], laidTests := true, laidLooks := .later }
def ClientTextsCardSaid : Prop := Claim7.holds Tryz.pinned (.plain (OpenSpec.ofChange clientTextsSpec)) clientTextsCard

/-- THE TIED CARD OF 'indenturelaw24.ParseSmall'. -/
def parseSmallCard : Claim7 := { stood := { row := parseSmallRow, standIns := [], harness := (true, "037f422cb68855a965c19dc3e74e8d0de4a74691a77d4cb25bc3f449c6ac32aa"), looks := true }, kinds := [], alts := [], laidByText := true, laidKinds := [.data, .data, .data, .data, .sentinel, .sentinel, .pinned, .pinned], laidTests := true, laidLooks := .later }
def ParseSmallCardSaid : Prop := Claim7.holds Tryz.pinned (.plain (OpenSpec.ofChange parseSmallSpec)) parseSmallCard

/-- THE TIED CARD OF 'indenturelaw24.ParseTables'. -/
def parseTablesCard : Claim7 := { stood := { row := parseTablesRow, standIns := [], harness := (true, "037f422cb68855a965c19dc3e74e8d0de4a74691a77d4cb25bc3f449c6ac32aa"), looks := true }, kinds := [], alts := [], laidByText := true, laidKinds := [.data, .data, .data, .data, .sentinel, .sentinel, .pinned, .pinned], laidTests := true, laidLooks := .later }
def ParseTablesCardSaid : Prop := Claim7.holds Tryz.pinned (.plain (OpenSpec.ofChange parseTablesSpec)) parseTablesCard

/-- THE SECOND FORM's CARD OF 'indenturelaw27.ClientTexts'. -/
def clientTextsUptoCard : Claim7 := { stood := { row := clientTextsUptoRow, standIns := [], harness := (true, "037f422cb68855a965c19dc3e74e8d0de4a74691a77d4cb25bc3f449c6ac32aa"), looks := true }, kinds := [], alts := [], laidByText := true, laidKinds := [.data, .data, .data, .data, .sentinel, .sentinel, .pinned, .pinned], laidTests := true, laidLooks := .later }
def ClientTextsUptoCardSaid : Prop := Claim7.holds Tryz.pinned (.plain (OpenSpec.upto clientTextsSpec)) clientTextsUptoCard

/-- THE SECOND FORM's CARD OF 'indenturelaw24.ParseSmall'. -/
def parseSmallUptoCard : Claim7 := { stood := { row := parseSmallUptoRow, standIns := [], harness := (true, "037f422cb68855a965c19dc3e74e8d0de4a74691a77d4cb25bc3f449c6ac32aa"), looks := true }, kinds := [], alts := [], laidByText := true, laidKinds := [.data, .data, .data, .data, .sentinel, .sentinel, .pinned, .pinned], laidTests := true, laidLooks := .later }
def ParseSmallUptoCardSaid : Prop := Claim7.holds Tryz.pinned (.plain (OpenSpec.upto parseSmallSpec)) parseSmallUptoCard

/-- THE SECOND FORM's CARD OF 'indenturelaw24.ParseTables'. -/
def parseTablesUptoCard : Claim7 := { stood := { row := parseTablesUptoRow, standIns := [], harness := (true, "037f422cb68855a965c19dc3e74e8d0de4a74691a77d4cb25bc3f449c6ac32aa"), looks := true }, kinds := [], alts := [], laidByText := true, laidKinds := [.data, .data, .data, .data, .sentinel, .sentinel, .pinned, .pinned], laidTests := true, laidLooks := .later }
def ParseTablesUptoCardSaid : Prop := Claim7.holds Tryz.pinned (.plain (OpenSpec.upto parseTablesSpec)) parseTablesUptoCard
end Rows
end Go.Proofs.YtgfbealjkdhdbaaGreatDoor
