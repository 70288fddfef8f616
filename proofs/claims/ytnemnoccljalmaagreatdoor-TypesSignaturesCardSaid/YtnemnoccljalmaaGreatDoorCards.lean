/-
  DERIVED. GIVEN WITH THE SEED: THE CARDS: each row of YtnemnoccljalmaaGreatDoorRows.lean that lists a variable, with what it lists TIED to the program's text (the seventh form; the later family's looks); each row that meets fmt, with fmt's text TOLD by the authors' own Lean function (tested against real Go, not proved from fmt's source: count such statements apart). THE CARD IS WHAT COUNTS. Prove the row's statement (the work); the ties are given (YtnemnoccljalmaaGreatDoorTie.lean); close each card by the builder's one call (the guide's Derived/Test/ToyasCard.lean, 'card_holds'). Laid BY PROGRAM, IN A SANDBOX (cutbox-door.mjs). By AI agents, Wed Nov 11 2026. No macro, syntax, notation, axiom, sorry.
-/
import Derived.Test.YtnemnoccljalmaaGreatDoorRows
import GoSem.ClaimSeven
namespace Go.Proofs.YtnemnoccljalmaaGreatDoor
namespace Rows

/-- THE TIED CARD OF 'isobarlaw19.TypesSignatures'. -/
def typesSignaturesCard : Claim7 := { stood := { row := typesSignaturesRow, standIns := [], harness := (true, "0ba4bb706a0d8cb57fef1ba433a01822bb2bc3605537e71e8c519ab875b1a4e9"), looks := true }, kinds := [], alts := [], laidByText := true, laidKinds := [.data, .data, .widerDeep, .widerDeep, .data, .data, .data, .data, .data, .sentinel, .sentinel, .pinned, .pinned], laidTests := true, laidLooks := .later }
def TypesSignaturesCardSaid : Prop := Claim7.holds Tryz.pinned (.plain (OpenSpec.ofChange typesSignaturesSpec)) typesSignaturesCard

/-- THE SECOND FORM's CARD OF 'isobarlaw19.TypesSignatures'. -/
def typesSignaturesUptoCard : Claim7 := { stood := { row := typesSignaturesUptoRow, standIns := [], harness := (true, "0ba4bb706a0d8cb57fef1ba433a01822bb2bc3605537e71e8c519ab875b1a4e9"), looks := true }, kinds := [], alts := [], laidByText := true, laidKinds := [.data, .data, .widerDeep, .widerDeep, .data, .data, .data, .data, .data, .sentinel, .sentinel, .pinned, .pinned], laidTests := true, laidLooks := .later }
def TypesSignaturesUptoCardSaid : Prop := Claim7.holds Tryz.pinned (.plain (OpenSpec.upto typesSignaturesSpec)) typesSignaturesUptoCard
end Rows
end Go.Proofs.YtnemnoccljalmaaGreatDoor
