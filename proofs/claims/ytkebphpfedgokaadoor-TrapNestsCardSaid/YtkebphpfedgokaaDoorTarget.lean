/-
  trap's target and down; a state as a Lean structure.
-/
import Derived.Test.YtkebphpfedgokaaDoorSmall
import Derived.Deep.RegionWith
set_option linter.unusedVariables false
set_option linter.unusedSimpArgs false
namespace Go.Proofs.YtkebphpfedgokaaDoor
open Go.RowKit Go.Lib

theorem target_calls (v c : Int) (w : World) : Calls Tryd.prog 24 #[.int .u32 v, .int .u32 c] w fun e w' => e = .returned (.int .u32 (tTarget v c)) ∧ w = w' := by
  rcases hi : tInt c with _ | _
  · have e : tTarget v c = bits .andNot .u32 v 3 := by unfold tTarget; rw [hi]; rfl
    rw [e]
    have HI := _root_.Go.Lib.hid hi
    clear hi e
    go_enter Tryd.func24, Tryd.ntmps24
    go_wp2_with (go_at_call 29; refine (interrupt_calls c _).mono ?_; rw [HI.out]; rintro e w' ⟨rfl, rfl⟩)
    go_ret
    exact ⟨rfl, rfl⟩
  · rcases hv : tHas v 1 with _ | _
    · have e : tTarget v c = bits .andNot .u32 v 3 := by unfold tTarget; rw [hi, hv]; rfl
      rw [e]
      have HI := _root_.Go.Lib.hid hi
      have HV := _root_.Go.Lib.hid hv
      clear hi e hv
      go_enter Tryd.func24, Tryd.ntmps24
      go_wp2_with (first | (go_at_call 29; refine (interrupt_calls c _).mono ?_; rw [HI.out]; rintro e w' ⟨rfl, rfl⟩) | (go_at_call 19; refine (has_calls v 1 _).mono ?_; rw [HV.out]; rintro e w' ⟨rfl, rfl⟩))
      go_ret
      exact ⟨rfl, rfl⟩
    · have e : tTarget v c = (bits .andNot .u32 v 3 + bits .and .u32 c 31 * 4 % 4294967296) % 4294967296 := by unfold tTarget; rw [hi, hv]; rfl
      rw [e]
      have HI := _root_.Go.Lib.hid hi
      have HV := _root_.Go.Lib.hid hv
      clear hi e hv
      go_enter Tryd.func24, Tryd.ntmps24
      go_wp2_with (first | (go_at_call 29; refine (interrupt_calls c _).mono ?_; rw [HI.out]; rintro e w' ⟨rfl, rfl⟩) | (go_at_call 19; refine (has_calls v 1 _).mono ?_; rw [HV.out]; rintro e w' ⟨rfl, rfl⟩))
      go_ret
      exact ⟨by first | rfl | go_num | skip, rfl⟩
end Go.Proofs.YtkebphpfedgokaaDoor
