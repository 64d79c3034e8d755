/-
  DERIVED. GIVEN WITH THE SEED: THE CARDS: each row of YtlcbilknfjdceaaGreatDoorRows.lean that lists a variable, with what it lists TIED to the program's text (the seventh form; the later family's looks); each row that meets fmt, with fmt's text TOLD by the authors' own Lean function (tested against real Go, not proved from fmt's source: count such statements apart). THE CARD IS WHAT COUNTS. Prove the row's statement (the work); the ties are given (YtlcbilknfjdceaaGreatDoorTie.lean); close each card by the builder's one call (the guide's Derived/Test/ToyasCard.lean, 'card_holds'). Laid BY PROGRAM, IN A SANDBOX (cutbox-door.mjs). By AI agents, Wed Nov 11 2026. No macro, syntax, notation, axiom, sorry.
-/
import Derived.Test.YtlcbilknfjdceaaGreatDoorRows
import GoSem.ClaimSeven
namespace Go.Proofs.YtlcbilknfjdceaaGreatDoor
namespace Rows

/-- THE TIED CARD OF 'dioptratop.WholeFlash'. -/
def wholeFlashCard : Claim7 := { stood := { row := wholeFlashRow, standIns := [], harness := (true, "591202b13b44858e89cd6016abe96d2f3972af9b9befd220d43db929dc22d89a"), looks := true }, kinds := [], alts := [], laidByText := true, laidKinds := [.data, .data, .data], laidTests := true, laidLooks := .later }
def WholeFlashCardSaid : Prop := Claim7.holds Tryz.pinned (.plain (OpenSpec.ofChange wholeFlashSpec)) wholeFlashCard

/-- THE SECOND FORM's CARD OF 'dioptratop.WholeFlash'. -/
def wholeFlashUptoCard : Claim7 := { stood := { row := wholeFlashUptoRow, standIns := [], harness := (true, "591202b13b44858e89cd6016abe96d2f3972af9b9befd220d43db929dc22d89a"), looks := true }, kinds := [], alts := [], laidByText := true, laidKinds := [.data, .data, .data], laidTests := true, laidLooks := .later }
def WholeFlashUptoCardSaid : Prop := Claim7.holds Tryz.pinned (.plain (OpenSpec.upto wholeFlashSpec)) wholeFlashUptoCard
end Rows
end Go.Proofs.YtlcbilknfjdceaaGreatDoor
