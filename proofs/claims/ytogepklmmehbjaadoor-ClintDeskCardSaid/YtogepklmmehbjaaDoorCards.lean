/-
  DERIVED. GIVEN WITH THE SEED: THE CARDS: each row of YtogepklmmehbjaaDoorRows.lean that lists a variable, with what it lists TIED to the program's text (the seventh form; the later family's looks); each row that meets fmt, with fmt's text TOLD by the authors' own Lean function (tested against real Go, not proved from fmt's source: count such statements apart). THE CARD IS WHAT COUNTS. Prove the row's statement (the work); the ties are given (YtogepklmmehbjaaDoorTie.lean); close each card by the builder's one call (the guide's Derived/Test/ToyasCard.lean, 'card_holds'). Laid BY PROGRAM, IN A SANDBOX (cutbox-door.mjs). By AI agents, Wed Nov 11 2026. No macro, syntax, notation, axiom, sorry.
-/
import Derived.Test.YtogepklmmehbjaaDoorRows
import GoSem.ClaimSeven
namespace Go.Proofs.YtogepklmmehbjaaDoor
namespace Rows

/-- THE TIED CARD OF 'dioptralaw18.ClintActs'. -/
def clintActsCard : Claim7 := { stood := { row := clintActsRow, standIns := [], harness := (true, "afee94d03a6d5320f4772f27148789217248fddc979a361666759960bce1d9bd"), looks := false }, kinds := [], alts := [], laidByText := true, laidKinds := [.data], laidTests := true, laidLooks := .later }
def ClintActsCardSaid : Prop := Claim7.holds Tryd.pinned (.plain (OpenSpec.ofChange clintActsSpec)) clintActsCard

/-- THE TIED CARD OF 'dioptralaw18.ClintDesk'. -/
def clintDeskCard : Claim7 := { stood := { row := clintDeskRow, standIns := [], harness := (true, "afee94d03a6d5320f4772f27148789217248fddc979a361666759960bce1d9bd"), looks := false }, kinds := [], alts := [], laidByText := true, laidKinds := [.data], laidTests := true, laidLooks := .later }
def ClintDeskCardSaid : Prop := Claim7.holds Tryd.pinned (.plain (OpenSpec.ofChange clintDeskSpec)) clintDeskCard

/-- THE TIED CARD OF 'dioptralaw18.ClintOnce'. -/
def clintOnceCard : Claim7 := { stood := { row := clintOnceRow, standIns := [], harness := (true, "afee94d03a6d5320f4772f27148789217248fddc979a361666759960bce1d9bd"), looks := false }, kinds := [], alts := [], laidByText := true, laidKinds := [.data], laidTests := true, laidLooks := .later }
def ClintOnceCardSaid : Prop := Claim7.holds Tryd.pinned (.plain (OpenSpec.ofChange clintOnceSpec)) clintOnceCard

/-- THE TIED CARD OF 'dioptralaw18.ClintRings'. -/
def clintRingsCard : Claim7 := { stood := { row := clintRingsRow, standIns := [], harness := (true, "afee94d03a6d5320f4772f27148789217248fddc979a361666759960bce1d9bd"), looks := false }, kinds := [], alts := [], laidByText := true, laidKinds := [.data], laidTests := true, laidLooks := .later }
def ClintRingsCardSaid : Prop := Claim7.holds Tryd.pinned (.plain (OpenSpec.ofChange clintRingsSpec)) clintRingsCard

/-- THE TIED CARD OF 'dioptralaw18.ClintNobody'. -/
def clintNobodyCard : Claim7 := { stood := { row := clintNobodyRow, standIns := [], harness := (true, "afee94d03a6d5320f4772f27148789217248fddc979a361666759960bce1d9bd"), looks := false }, kinds := [], alts := [], laidByText := true, laidKinds := [.data], laidTests := true, laidLooks := .later }
def ClintNobodyCardSaid : Prop := Claim7.holds Tryd.pinned (.plain (OpenSpec.ofChange clintNobodySpec)) clintNobodyCard

/-- THE TIED CARD OF 'dioptralaw18.ClintHalves'. -/
def clintHalvesCard : Claim7 := { stood := { row := clintHalvesRow, standIns := [], harness := (true, "afee94d03a6d5320f4772f27148789217248fddc979a361666759960bce1d9bd"), looks := false }, kinds := [], alts := [], laidByText := true, laidKinds := [.data], laidTests := true, laidLooks := .later }
def ClintHalvesCardSaid : Prop := Claim7.holds Tryd.pinned (.plain (OpenSpec.ofChange clintHalvesSpec)) clintHalvesCard

/-- THE SECOND FORM's CARD OF 'dioptralaw18.ClintActs'. -/
def clintActsUptoCard : Claim7 := { stood := { row := clintActsUptoRow, standIns := [], harness := (true, "afee94d03a6d5320f4772f27148789217248fddc979a361666759960bce1d9bd"), looks := false }, kinds := [], alts := [], laidByText := true, laidKinds := [.data], laidTests := true, laidLooks := .later }
def ClintActsUptoCardSaid : Prop := Claim7.holds Tryd.pinned (.plain (OpenSpec.upto clintActsSpec)) clintActsUptoCard

/-- THE SECOND FORM's CARD OF 'dioptralaw18.ClintDesk'. -/
def clintDeskUptoCard : Claim7 := { stood := { row := clintDeskUptoRow, standIns := [], harness := (true, "afee94d03a6d5320f4772f27148789217248fddc979a361666759960bce1d9bd"), looks := false }, kinds := [], alts := [], laidByText := true, laidKinds := [.data], laidTests := true, laidLooks := .later }
def ClintDeskUptoCardSaid : Prop := Claim7.holds Tryd.pinned (.plain (OpenSpec.upto clintDeskSpec)) clintDeskUptoCard

/-- THE SECOND FORM's CARD OF 'dioptralaw18.ClintOnce'. -/
def clintOnceUptoCard : Claim7 := { stood := { row := clintOnceUptoRow, standIns := [], harness := (true, "afee94d03a6d5320f4772f27148789217248fddc979a361666759960bce1d9bd"), looks := false }, kinds := [], alts := [], laidByText := true, laidKinds := [.data], laidTests := true, laidLooks := .later }
def ClintOnceUptoCardSaid : Prop := Claim7.holds Tryd.pinned (.plain (OpenSpec.upto clintOnceSpec)) clintOnceUptoCard

/-- THE SECOND FORM's CARD OF 'dioptralaw18.ClintRings'. -/
def clintRingsUptoCard : Claim7 := { stood := { row := clintRingsUptoRow, standIns := [], harness := (true, "afee94d03a6d5320f4772f27148789217248fddc979a361666759960bce1d9bd"), looks := false }, kinds := [], alts := [], laidByText := true, laidKinds := [.data], laidTests := true, laidLooks := .later }
def ClintRingsUptoCardSaid : Prop := Claim7.holds Tryd.pinned (.plain (OpenSpec.upto clintRingsSpec)) clintRingsUptoCard

/-- THE SECOND FORM's CARD OF 'dioptralaw18.ClintNobody'. -/
def clintNobodyUptoCard : Claim7 := { stood := { row := clintNobodyUptoRow, standIns := [], harness := (true, "afee94d03a6d5320f4772f27148789217248fddc979a361666759960bce1d9bd"), looks := false }, kinds := [], alts := [], laidByText := true, laidKinds := [.data], laidTests := true, laidLooks := .later }
def ClintNobodyUptoCardSaid : Prop := Claim7.holds Tryd.pinned (.plain (OpenSpec.upto clintNobodySpec)) clintNobodyUptoCard

/-- THE SECOND FORM's CARD OF 'dioptralaw18.ClintHalves'. -/
def clintHalvesUptoCard : Claim7 := { stood := { row := clintHalvesUptoRow, standIns := [], harness := (true, "afee94d03a6d5320f4772f27148789217248fddc979a361666759960bce1d9bd"), looks := false }, kinds := [], alts := [], laidByText := true, laidKinds := [.data], laidTests := true, laidLooks := .later }
def ClintHalvesUptoCardSaid : Prop := Claim7.holds Tryd.pinned (.plain (OpenSpec.upto clintHalvesSpec)) clintHalvesUptoCard
end Rows
end Go.Proofs.YtogepklmmehbjaaDoor
