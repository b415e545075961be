/-
  DERIVED. GIVEN WITH THE SEED: THE CARDS: each row of YtpbicmjkjihhnaaDoorRows.lean that lists a variable, with what it lists TIED to the program's text (the seventh form; the later family's looks); each row that meets fmt, with fmt's text TOLD by the authors' own Lean function (tested against real Go, not proved from fmt's source: count such statements apart). THE CARD IS WHAT COUNTS. Prove the row's statement (the work); the ties are given (YtpbicmjkjihhnaaDoorTie.lean); close each card by the builder's one call (the guide's Derived/Test/ToyasCard.lean, 'card_holds'). Laid BY PROGRAM, IN A SANDBOX (cutbox-door.mjs). By AI agents, Wed Nov 11 2026. No macro, syntax, notation, axiom, sorry.
-/
import Derived.Test.YtpbicmjkjihhnaaDoorRows
import GoSem.ClaimSeven
namespace Go.Proofs.YtpbicmjkjihhnaaDoor
namespace Rows

/-- THE TIED CARD OF 'indenturelaw23.LexTexts'. -/
def lexTextsCard : Claim7 := { stood := { row := lexTextsRow, standIns := [], harness := (true, "06678cdf0ff578b4e90884a805b910e3d9cecf777631c333e7f07dd559505246"), looks := true }, kinds := [], alts := [], laidByText := true, laidKinds := [.data, .data, .data, .data, .sentinel, .sentinel, .pinned, .pinned], laidTests := true, laidLooks := .later }
def LexTextsCardSaid : Prop := Claim7.holds Tryd.pinned (.plain (OpenSpec.ofChange lexTextsSpec)) lexTextsCard

/-- THE TIED CARD OF 'indenturelaw23.LexBlanks'. -/
def lexBlanksCard : Claim7 := { stood := { row := lexBlanksRow, standIns := [], harness := (true, "06678cdf0ff578b4e90884a805b910e3d9cecf777631c333e7f07dd559505246"), looks := true }, kinds := [], alts := [], laidByText := true, laidKinds := [.data, .data, .data, .data, .sentinel, .sentinel, .pinned, .pinned], laidTests := true, laidLooks := .later }
def LexBlanksCardSaid : Prop := Claim7.holds Tryd.pinned (.plain (OpenSpec.ofChange lexBlanksSpec)) lexBlanksCard

/-- THE TIED CARD OF 'indenturelaw23.LexIs'. -/
def lexIsCard : Claim7 := { stood := { row := lexIsRow, standIns := [], harness := (true, "06678cdf0ff578b4e90884a805b910e3d9cecf777631c333e7f07dd559505246"), looks := true }, kinds := [], alts := [], laidByText := true, laidKinds := [.data, .data, .data, .data, .sentinel, .sentinel, .pinned, .pinned], laidTests := true, laidLooks := .later }
def LexIsCardSaid : Prop := Claim7.holds Tryd.pinned (.plain (OpenSpec.ofChange lexIsSpec)) lexIsCard

/-- THE SECOND FORM's CARD OF 'indenturelaw23.LexTexts'. -/
def lexTextsUptoCard : Claim7 := { stood := { row := lexTextsUptoRow, standIns := [], harness := (true, "06678cdf0ff578b4e90884a805b910e3d9cecf777631c333e7f07dd559505246"), looks := true }, kinds := [], alts := [], laidByText := true, laidKinds := [.data, .data, .data, .data, .sentinel, .sentinel, .pinned, .pinned], laidTests := true, laidLooks := .later }
def LexTextsUptoCardSaid : Prop := Claim7.holds Tryd.pinned (.plain (OpenSpec.upto lexTextsSpec)) lexTextsUptoCard

/-- THE SECOND FORM's CARD OF 'indenturelaw23.LexBlanks'. -/
def lexBlanksUptoCard : Claim7 := { stood := { row := lexBlanksUptoRow, standIns := [], harness := (true, "06678cdf0ff578b4e90884a805b910e3d9cecf777631c333e7f07dd559505246"), looks := true }, kinds := [], alts := [], laidByText := true, laidKinds := [.data, .data, .data, .data, .sentinel, .sentinel, .pinned, .pinned], laidTests := true, laidLooks := .later }
def LexBlanksUptoCardSaid : Prop := Claim7.holds Tryd.pinned (.plain (OpenSpec.upto lexBlanksSpec)) lexBlanksUptoCard

/-- THE SECOND FORM's CARD OF 'indenturelaw23.LexIs'. -/
def lexIsUptoCard : Claim7 := { stood := { row := lexIsUptoRow, standIns := [], harness := (true, "06678cdf0ff578b4e90884a805b910e3d9cecf777631c333e7f07dd559505246"), looks := true }, kinds := [], alts := [], laidByText := true, laidKinds := [.data, .data, .data, .data, .sentinel, .sentinel, .pinned, .pinned], laidTests := true, laidLooks := .later }
def LexIsUptoCardSaid : Prop := Claim7.holds Tryd.pinned (.plain (OpenSpec.upto lexIsSpec)) lexIsUptoCard
end Rows
end Go.Proofs.YtpbicmjkjihhnaaDoor
