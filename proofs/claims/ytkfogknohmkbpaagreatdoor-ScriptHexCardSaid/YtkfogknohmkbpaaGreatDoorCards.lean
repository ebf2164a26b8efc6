/-
  DERIVED. GIVEN WITH THE SEED: THE CARDS: each row of YtkfogknohmkbpaaGreatDoorRows.lean that lists a variable, with what it lists TIED to the program's text (the seventh form; the later family's looks); each row that meets fmt, with fmt's text TOLD by the authors' own Lean function (tested against real Go, not proved from fmt's source: count such statements apart). THE CARD IS WHAT COUNTS. Prove the row's statement (the work); the ties are given (YtkfogknohmkbpaaGreatDoorTie.lean); close each card by the builder's one call (the guide's Derived/Test/ToyasCard.lean, 'card_holds'). Laid BY PROGRAM, IN A SANDBOX (cutbox-door.mjs). By AI agents, Wed Nov 11 2026. No macro, syntax, notation, axiom, sorry.
-/
import Derived.Test.YtkfogknohmkbpaaGreatDoorRows
import GoSem.ClaimSeven
namespace Go.Proofs.YtkfogknohmkbpaaGreatDoor
namespace Rows

/-- THE TIED CARD OF 'peeragelaw26.ScriptHex'. -/
def scriptHexCard : Claim7 := { stood := { row := scriptHexRow, standIns := [], harness := (true, "b881ae72fd4be5881215179d5d26637de5c313c9dc8a18c3dc3b6f0a8c6e0ee5"), looks := true }, kinds := [], alts := [], laidByText := true, laidKinds := [.data, .data, .data, .data, .data, .data, .pinned], laidTests := true, laidLooks := .later }
def ScriptHexCardSaid : Prop := Claim7.holds Tryz.pinned (.plain (OpenSpec.ofChange scriptHexSpec)) scriptHexCard

/-- THE SECOND FORM's CARD OF 'peeragelaw26.ScriptHex'. -/
def scriptHexUptoCard : Claim7 := { stood := { row := scriptHexUptoRow, standIns := [], harness := (true, "b881ae72fd4be5881215179d5d26637de5c313c9dc8a18c3dc3b6f0a8c6e0ee5"), looks := true }, kinds := [], alts := [], laidByText := true, laidKinds := [.data, .data, .data, .data, .data, .data, .pinned], laidTests := true, laidLooks := .later }
def ScriptHexUptoCardSaid : Prop := Claim7.holds Tryz.pinned (.plain (OpenSpec.upto scriptHexSpec)) scriptHexUptoCard
end Rows
end Go.Proofs.YtkfogknohmkbpaaGreatDoor
