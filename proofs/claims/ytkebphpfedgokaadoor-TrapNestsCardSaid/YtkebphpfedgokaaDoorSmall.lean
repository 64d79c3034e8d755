/-
  The small functions of trap: has, set, interrupt, target.
-/
import Derived.Test.YtkebphpfedgokaaDoorKw
set_option linter.unusedVariables false
set_option linter.unusedSimpArgs false
namespace Go.Proofs.YtkebphpfedgokaaDoor
open Go.RowKit Go.Lib

def tHas (x b : Int) : Bool := bits .and .u32 x b != 0
def tSet (x b : Int) (t : Bool) : Int := if t then bits .or .u32 x b else bits .andNot .u32 x b
def tInt (c : Int) : Bool := tHas c 2147483648
def tTarget (v c : Int) : Int := if tInt c && tHas v 1 then (bits .andNot .u32 v 3 + bits .and .u32 c 31 * 4 % 4294967296) % 4294967296 else bits .andNot .u32 v 3
theorem has_calls (x b : Int) (w : World) : Calls Tryd.prog 19 #[.int .u32 x, .int .u32 b] w fun e w' => e = .returned (.bool (tHas x b)) ∧ w = w' := by
  go_enter Tryd.func19, Tryd.ntmps19
  go_wp2
  go_ret
  exact ⟨rfl, rfl⟩
theorem set_calls (x b : Int) (t : Bool) (w : World) : Calls Tryd.prog 23 #[.int .u32 x, .int .u32 b, .bool t] w fun e w' => e = .returned (.int .u32 (tSet x b t)) ∧ w = w' := by
  cases t
  all_goals
    go_enter Tryd.func23, Tryd.ntmps23
    go_wp2
    go_ret
    exact ⟨rfl, rfl⟩
theorem interrupt_calls (c : Int) (w : World) : Calls Tryd.prog 29 #[.int .u32 c] w fun e w' => e = .returned (.bool (tInt c)) ∧ w = w' := by
  go_enter Tryd.func29, Tryd.ntmps29
  go_wp2_with fail
  refine (has_calls c 2147483648 w).mono ?_
  rintro e w' ⟨rfl, rfl⟩
  go_wp2
  go_ret
  exact ⟨rfl, rfl⟩
end Go.Proofs.YtkebphpfedgokaaDoor
