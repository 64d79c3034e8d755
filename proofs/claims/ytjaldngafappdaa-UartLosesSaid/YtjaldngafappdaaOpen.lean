/-
  What the arguments of the laws hold.
-/
import Derived.Test.YtjaldngafappdaaRows
import Derived.ProofKit
import Derived.OpenShut
import Derived.Below
import Derived.Laws.IdiomArrays
namespace Go.Proofs.Ytjaldngafappdaa
open Go.ChangeShapes Go.WideShapes Go.ChangeAt Go.RowKit

theorem own17 : ownKnob Try.prog.godebug = none := by kernel_rfl
theorem laidOut17 : laidOutB Try.prog = true := by kernel_rfl
theorem cells26 : Try.prog.cellsOf 26 = 1 := by kernel_rfl
theorem cells46 : Try.prog.cellsOf 46 = 4 := by kernel_rfl

section
variable {H : Type} {enc : TypeId × Value → H} {w : World} {base : Nat} {spare : Nat → Bool} {held : Bool}

theorem open_arr4 {r : Reach} {b0 : Nat} {v : Value} {d : DataW H} {p : List MemPlace} (hv : Value.okWide Try.prog w r b0 46 v) (h : DataW.Trod enc Try.prog w base spare held 46 v d p) :
    ∃ a b c e, v = .agg #[.int .u32 a, .int .u32 b, .int .u32 c, .int .u32 e] ∧ (0 ≤ a ∧ a < 4294967296) ∧ (0 ≤ b ∧ b < 4294967296) ∧ (0 ≤ c ∧ c < 4294967296) ∧ (0 ≤ e ∧ e < 4294967296) := by
  obtain ⟨cs, rfl, hsz, _⟩ : ∃ cs, v = .agg cs ∧ cs.size = Try.prog.cellsOf 46 ∧ Row.okWide Try.prog w r b0 46 cs := by
    simpa [Value.okWide, Try.underlying46] using hv
  obtain ⟨l⟩ := cs
  match l, hsz.trans cells46 with
  | [c0, c1, c2, c3], _ =>
    obtain ⟨fuel, hf⟩ := h
    obtain ⟨y0, y1, y2, y3, m, hx, hy0, hy1, hy2, hy3⟩ := trod_array4 Try.underlying46 cells26 hf
    obtain ⟨x0, e0, _, w0⟩ := DataW.trod_int Try.underlying26 hy0
    obtain ⟨x1, e1, _, w1⟩ := DataW.trod_int Try.underlying26 hy1
    obtain ⟨x2, e2, _, w2⟩ := DataW.trod_int Try.underlying26 hy2
    obtain ⟨x3, e3, _, w3⟩ := DataW.trod_int Try.underlying26 hy3
    simp at e0 e1 e2 e3
    subst e0 e1 e2 e3
    have := bounds_u32 w0
    have := bounds_u32 w1
    have := bounds_u32 w2
    have := bounds_u32 w3
    exact ⟨x0, x1, x2, x3, rfl, by omega, by omega, by omega, by omega⟩
end
end Go.Proofs.Ytjaldngafappdaa
