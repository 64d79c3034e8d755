/-
  DERIVED. GIVEN WITH THE SEED: THE CARDS: each row of YtkebphpfedgokaaDoorRows.lean that lists a variable, with what it lists TIED to the program's text (the seventh form; the later family's looks); each row that meets fmt, with fmt's text TOLD by the authors' own Lean function (tested against real Go, not proved from fmt's source: count such statements apart). THE CARD IS WHAT COUNTS. Prove the row's statement (the work); the ties are given (YtkebphpfedgokaaDoorTie.lean); close each card by the builder's one call (the guide's Derived/Test/ToyasCard.lean, 'card_holds'). Laid BY PROGRAM, IN A SANDBOX (cutbox-door.mjs). By AI agents, Wed Nov 11 2026. No macro, syntax, notation, axiom, sorry.
-/
import Derived.Test.YtkebphpfedgokaaDoorRows
import GoSem.ClaimSeven
namespace Go.Proofs.YtkebphpfedgokaaDoor
namespace Rows

/-- THE TIED CARD OF 'dioptralaw14.TrapTells'. -/
def trapTellsCard : Claim7 := { stood := { row := trapTellsRow, standIns := [], harness := (true, "b5bfd4155870320f04214a2645db1aa1cfb0476ee2916b434f18236e31773bd3"), looks := false }, kinds := [], alts := [], laidByText := true, laidKinds := [.data], laidTests := true, laidLooks := .later }
def TrapTellsCardSaid : Prop := Claim7.holds Tryd.pinned (.plain (OpenSpec.ofChange trapTellsSpec)) trapTellsCard

/-- THE TIED CARD OF 'dioptralaw14.TrapBack'. -/
def trapBackCard : Claim7 := { stood := { row := trapBackRow, standIns := [], harness := (true, "b5bfd4155870320f04214a2645db1aa1cfb0476ee2916b434f18236e31773bd3"), looks := false }, kinds := [], alts := [], laidByText := true, laidKinds := [.data], laidTests := true, laidLooks := .later }
def TrapBackCardSaid : Prop := Claim7.holds Tryd.pinned (.plain (OpenSpec.ofChange trapBackSpec)) trapBackCard

/-- THE TIED CARD OF 'dioptralaw14.TrapHigher'. -/
def trapHigherCard : Claim7 := { stood := { row := trapHigherRow, standIns := [], harness := (true, "b5bfd4155870320f04214a2645db1aa1cfb0476ee2916b434f18236e31773bd3"), looks := false }, kinds := [], alts := [], laidByText := true, laidKinds := [.data], laidTests := true, laidLooks := .later }
def TrapHigherCardSaid : Prop := Claim7.holds Tryd.pinned (.plain (OpenSpec.ofChange trapHigherSpec)) trapHigherCard

/-- THE TIED CARD OF 'dioptralaw14.TrapQuiet'. -/
def trapQuietCard : Claim7 := { stood := { row := trapQuietRow, standIns := [], harness := (true, "b5bfd4155870320f04214a2645db1aa1cfb0476ee2916b434f18236e31773bd3"), looks := false }, kinds := [], alts := [], laidByText := true, laidKinds := [.data], laidTests := true, laidLooks := .later }
def TrapQuietCardSaid : Prop := Claim7.holds Tryd.pinned (.plain (OpenSpec.ofChange trapQuietSpec)) trapQuietCard

/-- THE TIED CARD OF 'dioptralaw14.TrapNests'. -/
def trapNestsCard : Claim7 := { stood := { row := trapNestsRow, standIns := [], harness := (true, "b5bfd4155870320f04214a2645db1aa1cfb0476ee2916b434f18236e31773bd3"), looks := false }, kinds := [], alts := [], laidByText := true, laidKinds := [.data], laidTests := true, laidLooks := .later }
def TrapNestsCardSaid : Prop := Claim7.holds Tryd.pinned (.plain (OpenSpec.ofChange trapNestsSpec)) trapNestsCard

/-- THE TIED CARD OF 'dioptralaw14.TrapLines'. -/
def trapLinesCard : Claim7 := { stood := { row := trapLinesRow, standIns := [], harness := (true, "b5bfd4155870320f04214a2645db1aa1cfb0476ee2916b434f18236e31773bd3"), looks := false }, kinds := [], alts := [], laidByText := true, laidKinds := [.data], laidTests := true, laidLooks := .later }
def TrapLinesCardSaid : Prop := Claim7.holds Tryd.pinned (.plain (OpenSpec.ofChange trapLinesSpec)) trapLinesCard

/-- THE SECOND FORM's CARD OF 'dioptralaw14.TrapTells'. -/
def trapTellsUptoCard : Claim7 := { stood := { row := trapTellsUptoRow, standIns := [], harness := (true, "b5bfd4155870320f04214a2645db1aa1cfb0476ee2916b434f18236e31773bd3"), looks := false }, kinds := [], alts := [], laidByText := true, laidKinds := [.data], laidTests := true, laidLooks := .later }
def TrapTellsUptoCardSaid : Prop := Claim7.holds Tryd.pinned (.plain (OpenSpec.upto trapTellsSpec)) trapTellsUptoCard

/-- THE SECOND FORM's CARD OF 'dioptralaw14.TrapBack'. -/
def trapBackUptoCard : Claim7 := { stood := { row := trapBackUptoRow, standIns := [], harness := (true, "b5bfd4155870320f04214a2645db1aa1cfb0476ee2916b434f18236e31773bd3"), looks := false }, kinds := [], alts := [], laidByText := true, laidKinds := [.data], laidTests := true, laidLooks := .later }
def TrapBackUptoCardSaid : Prop := Claim7.holds Tryd.pinned (.plain (OpenSpec.upto trapBackSpec)) trapBackUptoCard

/-- THE SECOND FORM's CARD OF 'dioptralaw14.TrapHigher'. -/
def trapHigherUptoCard : Claim7 := { stood := { row := trapHigherUptoRow, standIns := [], harness := (true, "b5bfd4155870320f04214a2645db1aa1cfb0476ee2916b434f18236e31773bd3"), looks := false }, kinds := [], alts := [], laidByText := true, laidKinds := [.data], laidTests := true, laidLooks := .later }
def TrapHigherUptoCardSaid : Prop := Claim7.holds Tryd.pinned (.plain (OpenSpec.upto trapHigherSpec)) trapHigherUptoCard

/-- THE SECOND FORM's CARD OF 'dioptralaw14.TrapQuiet'. -/
def trapQuietUptoCard : Claim7 := { stood := { row := trapQuietUptoRow, standIns := [], harness := (true, "b5bfd4155870320f04214a2645db1aa1cfb0476ee2916b434f18236e31773bd3"), looks := false }, kinds := [], alts := [], laidByText := true, laidKinds := [.data], laidTests := true, laidLooks := .later }
def TrapQuietUptoCardSaid : Prop := Claim7.holds Tryd.pinned (.plain (OpenSpec.upto trapQuietSpec)) trapQuietUptoCard

/-- THE SECOND FORM's CARD OF 'dioptralaw14.TrapNests'. -/
def trapNestsUptoCard : Claim7 := { stood := { row := trapNestsUptoRow, standIns := [], harness := (true, "b5bfd4155870320f04214a2645db1aa1cfb0476ee2916b434f18236e31773bd3"), looks := false }, kinds := [], alts := [], laidByText := true, laidKinds := [.data], laidTests := true, laidLooks := .later }
def TrapNestsUptoCardSaid : Prop := Claim7.holds Tryd.pinned (.plain (OpenSpec.upto trapNestsSpec)) trapNestsUptoCard

/-- THE SECOND FORM's CARD OF 'dioptralaw14.TrapLines'. -/
def trapLinesUptoCard : Claim7 := { stood := { row := trapLinesUptoRow, standIns := [], harness := (true, "b5bfd4155870320f04214a2645db1aa1cfb0476ee2916b434f18236e31773bd3"), looks := false }, kinds := [], alts := [], laidByText := true, laidKinds := [.data], laidTests := true, laidLooks := .later }
def TrapLinesUptoCardSaid : Prop := Claim7.holds Tryd.pinned (.plain (OpenSpec.upto trapLinesSpec)) trapLinesUptoCard
end Rows
end Go.Proofs.YtkebphpfedgokaaDoor
