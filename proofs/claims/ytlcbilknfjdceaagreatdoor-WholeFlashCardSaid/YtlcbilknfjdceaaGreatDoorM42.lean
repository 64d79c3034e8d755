/-
  WholeFlash, part 42 of 44: Facta.
-/
import Derived.JoinedOf
import Derived.Test.YtlcbilknfjdceaaGreatDoorTie
section
/-
  The closed facts of the row, one by one; the first ones.
-/
set_option maxRecDepth 100000
namespace Go.Proofs.YtlcbilknfjdceaaGreatDoor
open Go
theorem fact0 : (Rows.wholeFlashRow.wf (OpenSpec.ofChange Rows.wholeFlashSpec)) = true := by kernel_rfl
theorem fact1 : (laidOutB Tryz.prog) = true := by kernel_rfl
theorem fact2 : (mapsRowed Tryz.prog) = true := by kernel_rfl
theorem fact3 : (Tryz.f3.params.all (Tryz.prog.readableRec ·)) = true := by kernel_rfl
theorem fact4 : (namedTie Tryz.prog Rows.wholeFlashRow.named Rows.wholeFlashSpec.vars) = true := by kernel_rfl
theorem fact5 : ((Rows.wholeFlashRow.stops == [])) = true := by kernel_rfl
theorem fact6 : ((Tryz.prog.stops == [])) = true := by kernel_rfl
theorem fact7 : ((Rows.wholeFlashRow.knobs == [])) = true := by kernel_rfl
theorem fact8 : ((Tryz.prog.stopKnobs == [])) = true := by kernel_rfl
theorem fact9 : ((Rows.wholeFlashRow.inPlace == Tryz.prog.inPlace 3)) = true := by kernel_rfl
theorem fact10 : ((Rows.wholeFlashRow.unfollowed == Tryz.prog.unfollowed 3)) = true := by kernel_rfl
end Go.Proofs.YtlcbilknfjdceaaGreatDoor
end
