/-
  The reference's Back: what it makes of any state.
-/
import Derived.Test.YtkebphpfedgokaaDoorRefqa
import Derived.Test.YtkebphpfedgokaaDoorRefqb
import Derived.Test.YtkebphpfedgokaaDoorRefqc
namespace Go.Proofs.YtkebphpfedgokaaDoor
open Go.RowKit Go.Lib Go.Val
theorem rback_calls (s : St) (hF : Wf s) (m : Bool) (w : World) : Calls Tryd.prog 18 #[.agg s.r, .bool m] w fun e w' => e = .returned (.agg (sBack s m).r) ∧ Below w.heap.size w w' := by
  cases m
  · cases h : hb s.x0 8
    · exact rback_u0 s hF h w
    · exact rback_u1 s hF h w
  · rcases sPriv_cases s.x0 with h | h | h | h
    · exact rback_m0 s hF h w
    · exact rback_m1 s hF h w
    · exact rback_m2 s hF h w
    · exact rback_m3 s hF h w
end Go.Proofs.YtkebphpfedgokaaDoor
