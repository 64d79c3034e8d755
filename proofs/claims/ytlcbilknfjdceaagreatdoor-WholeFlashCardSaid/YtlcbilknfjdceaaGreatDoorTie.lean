/-
  DERIVED. GIVEN WITH THE SEED: THE PROGRAM's TIES (one call each: nine closed facts by the kernel) AND EACH ROW's TIE, after the 31st guide's Derived/Test/Toyas{Tie, Card}.lean. No idea stands in it: it is a product of the set-up. Laid BY PROGRAM, IN A SANDBOX (cutbox-door.mjs). By AI agents, Wed Nov 11 2026. No macro, syntax, notation, axiom, sorry.
-/
import Derived.Test.YtlcbilknfjdceaaGreatDoorRows
import Derived.LaidByTextLater
import Derived.SevenTiedAt
import Derived.LaidSub
import Derived.LaidOnce
namespace Go.Proofs.YtlcbilknfjdceaaGreatDoor
open Go
set_option maxRecDepth 100000
theorem seatTie1 : Tryz.prog.laidByTextLater [("dioptra/trap.order", Rows.laid_dioptra_trap_order), ("dioptra/hart.uneven", Rows.laid_dioptra_hart_uneven), ("dioptra/hart.faults", Rows.laid_dioptra_hart_faults)] [.data, .data, .data] true :=
  Program.laidByTextLater_by_one 29 8 33 (by kernel_rfl) (by kernel_rfl) (by kernel_rfl) (by kernel_rfl) (by kernel_rfl) (by kernel_rfl) (fun _ _ => by kernel_rfl)
theorem noOwnUnsafe : Tryz.pinned.checked.prog.headLifts.contains "ownunsafe" = false := by kernel_rfl
theorem tie : Tryz.prog.laidByTextLater [("dioptra/trap.order", Rows.laid_dioptra_trap_order), ("dioptra/hart.uneven", Rows.laid_dioptra_hart_uneven), ("dioptra/hart.faults", Rows.laid_dioptra_hart_faults)] [.data, .data, .data] true :=
  Program.laidByTextLater.sub seatTie1 ["dioptra/trap.order", "dioptra/hart.uneven", "dioptra/hart.faults"] (by kernel_rfl) (by kernel_rfl)
theorem wholeFlash_row_tie : Rows.wholeFlashRow.laidByTextAt .later Tryz.pinned [.data, .data, .data] true :=
  OpenClaim.laidByTextAt_later rfl rfl tie noOwnUnsafe
theorem wholeFlashUpto_row_tie : Rows.wholeFlashUptoRow.laidByTextAt .later Tryz.pinned [.data, .data, .data] true :=
  OpenClaim.laidByTextAt_later rfl rfl tie noOwnUnsafe
end Go.Proofs.YtlcbilknfjdceaaGreatDoor
