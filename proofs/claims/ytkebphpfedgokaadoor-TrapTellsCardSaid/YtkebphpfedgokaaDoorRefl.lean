/-
  The reference's Take: what it makes of any state.
-/
import Derived.Test.YtkebphpfedgokaaDoorRefka
import Derived.Test.YtkebphpfedgokaaDoorRefkb
import Derived.Test.YtkebphpfedgokaaDoorRefkc
import Derived.Test.YtkebphpfedgokaaDoorRefkd
import Derived.Test.YtkebphpfedgokaaDoorRefke
namespace Go.Proofs.YtkebphpfedgokaaDoor
open Go.RowKit Go.Lib Go.Val
theorem rtake_calls (s : St) (c v : Int) (hr : Right s) (hF : Wf s) (hc : W32 c) (w : World) : Calls Tryd.prog 16 #[.agg s.r, .int .u32 c, .int .u32 v] w fun e w' => e = .returned (.agg (sTake s c v).r) ∧ Below w.heap.size w w' := by
  cases hd : sDown s c <;> cases hi : tInt c <;> rcases hr with h | h | h
  · exact rtake_u0f s c v h hF hc hd hi w
  · exact rtake_u1f s c v h hF hc hd hi w
  · exact rtake_u3f s c v h hF hc hd hi w
  · exact rtake_u0t s c v h hF hc hd hi w
  · exact rtake_u1t s c v h hF hc hd hi w
  · exact rtake_u3t s c v h hF hc hd hi w
  · exact rtake_d0f s c v h hF hc hd hi w
  · exact rtake_d1f s c v h hF hc hd hi w
  · exfalso
    unfold sDown at hd
    rw [h] at hd
    cases hd
  · exact rtake_d0t s c v h hF hc hd hi w
  · exact rtake_d1t s c v h hF hc hd hi w
  · exfalso
    unfold sDown at hd
    rw [h] at hd
    cases hd
end Go.Proofs.YtkebphpfedgokaaDoor
