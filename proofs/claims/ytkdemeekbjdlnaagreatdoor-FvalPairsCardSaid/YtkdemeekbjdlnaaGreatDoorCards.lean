/-
  DERIVED. GIVEN WITH THE SEED: THE CARDS: each row of YtkdemeekbjdlnaaGreatDoorRows.lean that lists a variable, with what it lists TIED to the program's text (the seventh form; the later family's looks); each row that meets fmt, with fmt's text TOLD by the authors' own Lean function (tested against real Go, not proved from fmt's source: count such statements apart). THE CARD IS WHAT COUNTS. Prove the row's statement (the work); the ties are given (YtkdemeekbjdlnaaGreatDoorTie.lean); close each card by the builder's one call (the guide's Derived/Test/ToyasCard.lean, 'card_holds'). Laid BY PROGRAM, IN A SANDBOX (cutbox-door.mjs). By AI agents, Wed Nov 11 2026. No macro, syntax, notation, axiom, sorry.
-/
import Derived.Test.YtkdemeekbjdlnaaGreatDoorRows
import GoSem.ClaimSeven
namespace Go.Proofs.YtkdemeekbjdlnaaGreatDoor
namespace Rows

/-- THE TIED CARD OF 'isobarlaw1.FvalPairs'. -/
def fvalPairsCard : Claim7 := { stood := { row := fvalPairsRow, standIns := [], harness := (true, "f128fa7b46507626e184c77e95bf9f6a44e64724815dbd114f9a4cd943b6c543"), looks := true }, kinds := [], alts := [], laidByText := true, laidKinds := [.data, .data, .widerDeep, .widerDeep, .data, .data, .data, .data, .data, .sentinel, .sentinel, .pinned, .pinned], laidTests := true, laidLooks := .later }
def FvalPairsCardSaid : Prop := Claim7.holds Tryz.pinned (.plain (OpenSpec.ofChange fvalPairsSpec)) fvalPairsCard

/-- THE SECOND FORM's CARD OF 'isobarlaw1.FvalPairs'. -/
def fvalPairsUptoCard : Claim7 := { stood := { row := fvalPairsUptoRow, standIns := [], harness := (true, "f128fa7b46507626e184c77e95bf9f6a44e64724815dbd114f9a4cd943b6c543"), looks := true }, kinds := [], alts := [], laidByText := true, laidKinds := [.data, .data, .widerDeep, .widerDeep, .data, .data, .data, .data, .data, .sentinel, .sentinel, .pinned, .pinned], laidTests := true, laidLooks := .later }
def FvalPairsUptoCardSaid : Prop := Claim7.holds Tryz.pinned (.plain (OpenSpec.upto fvalPairsSpec)) fvalPairsUptoCard
end Rows
end Go.Proofs.YtkdemeekbjdlnaaGreatDoor
