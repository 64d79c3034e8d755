/-
  A nil uart has nothing.
-/
import Derived.Test.YtjaldngafappdaaUw
set_option linter.unusedVariables false
set_option linter.unusedSimpArgs false
namespace Go.Proofs.Ytjaldngafappdaa
open Go.RowKit Go.Lib

theorem nobody_calls (off v : Int) (w : World) (ho : 0 ≤ off) : Calls Try.prog 6 #[.int .u32 off, .int .u32 v] w fun e w' => e = .returned (.bool true) ∧ Below w.heap.size w w' := by
  go_enter Try.func6, Try.ntmps6
  go_wp2_with fail
  refine (alive_calls _).mono ?_
  rintro e w1 ⟨rfl, h1⟩
  have H1 := _root_.Go.Lib.hid h1
  clear h1
  go_wp2_with (first | (go_at_call 15; refine (feed_nil _ _).mono ?_; rintro e w2 ⟨rfl, rfl⟩) | (go_at_call 11; refine (get_nil _ _ ho).mono ?_; rintro e w2 ⟨rfl, rfl⟩) | (go_at_call 14; refine (set_nil _ _ _ ho).mono ?_; rintro e w2 ⟨rfl, rfl⟩) | (go_at_call 17; refine (out_nil _).mono ?_; rintro e w2 ⟨rfl, rfl⟩) | (go_at_call 18; refine (up_nil _).mono ?_; rintro e w2 ⟨rfl, rfl⟩))
  go_ret
  exact ⟨rfl, H1.out⟩
end Go.Proofs.Ytjaldngafappdaa
