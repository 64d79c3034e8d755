/-
  A nil clock, and a nil desk, have nothing.
-/
import Derived.Test.YtogepklmmehbjaaDoorAlive
set_option linter.unusedVariables false
set_option linter.unusedSimpArgs false
namespace Go.Proofs.YtogepklmmehbjaaDoor
open Go.RowKit Go.Lib

theorem nobody_calls (off v : Int) (w : World) (hT : Tab w) (hv : 0 ≤ v ∧ v < 4294967296) : Calls Tryd.prog 7 #[.int .u32 off, .int .u32 v] w fun e w' => e = .returned (.bool true) ∧ Below w.heap.size w w' := by
  have HT := _root_.Go.Lib.hid hT
  obtain ⟨v1, v2⟩ := hv
  clear hT
  go_enter Tryd.func7, Tryd.ntmps7
  go_wp2_with fail
  refine (alive_calls _ HT.out).mono ?_
  rintro e w1 ⟨rfl, h1⟩
  have H1 := _root_.Go.Lib.hid h1
  clear h1
  go_wp2_with (first | (go_at_call 16; refine (tick_nil _ _).mono ?_; rintro e w2 ⟨rfl, rfl⟩) | (go_at_call 24; refine (ask_nil _ _).mono ?_; rintro e w2 ⟨rfl, rfl⟩) | (go_at_call 12; refine (get_nil _ _).mono ?_; rintro e w2 ⟨rfl, rfl⟩) | (go_at_call 20; refine (dget_nil _ _).mono ?_; rintro e w2 ⟨rfl, rfl⟩) | (go_at_call 15; refine (set_nil _ _ _).mono ?_; rintro e w2 ⟨rfl, rfl⟩) | (go_at_call 23; refine (dset_nil _ _ _).mono ?_; rintro e w2 ⟨rfl, rfl⟩) | (go_at_call 17; refine (lines_nil _).mono ?_; rintro e w2 ⟨rfl, rfl⟩) | (go_at_call 25; refine (up_nil _).mono ?_; rintro e w2 ⟨rfl, rfl⟩))
  go_ret
  exact ⟨rfl, H1.out⟩
end Go.Proofs.YtogepklmmehbjaaDoor
