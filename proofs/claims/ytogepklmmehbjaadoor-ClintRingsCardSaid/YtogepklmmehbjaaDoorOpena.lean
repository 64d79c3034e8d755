/-
  Arrays of four numbers, as arguments.
-/
import Derived.Test.YtogepklmmehbjaaDoorOpen
namespace Go.Proofs.YtogepklmmehbjaaDoor
open Go.ChangeShapes Go.WideShapes Go.ChangeAt Go.RowKit

theorem cells54 : Tryd.prog.cellsOf 54 = 4 := by kernel_rfl
section
variable {H : Type} {enc : TypeId × Value → H} {w : World} {base : Nat} {spare : Nat → Bool} {held : Bool}

theorem open_arr4 {r : Reach} {b0 : Nat} {v : Value} {d : DataW H} {p : List MemPlace} (hv : Value.okWide Tryd.prog w r b0 54 v) (h : DataW.Trod enc Tryd.prog w base spare held 54 v d p) :
    ∃ a b c e, v = .agg #[.int .u16 a, .int .u16 b, .int .u16 c, .int .u16 e] ∧ (0 ≤ a ∧ a < 65536) ∧ (0 ≤ b ∧ b < 65536) ∧ (0 ≤ c ∧ c < 65536) ∧ (0 ≤ e ∧ e < 65536) := by
  obtain ⟨cs, rfl, hsz, _⟩ : ∃ cs, v = .agg cs ∧ cs.size = Tryd.prog.cellsOf 54 ∧ Row.okWide Tryd.prog w r b0 54 cs := by
    simpa [Value.okWide, Tryd.underlying54] using hv
  obtain ⟨l⟩ := cs
  match l, hsz.trans cells54 with
  | [c0, c1, c2, c3], _ =>
    obtain ⟨fuel, hf⟩ := h
    obtain ⟨y0, y1, y2, y3, m, hx, hy0, hy1, hy2, hy3⟩ := trod_array4 Tryd.underlying54 cells53 hf
    obtain ⟨x0, e0, _, w0⟩ := DataW.trod_int Tryd.underlying53 hy0
    obtain ⟨x1, e1, _, w1⟩ := DataW.trod_int Tryd.underlying53 hy1
    obtain ⟨x2, e2, _, w2⟩ := DataW.trod_int Tryd.underlying53 hy2
    obtain ⟨x3, e3, _, w3⟩ := DataW.trod_int Tryd.underlying53 hy3
    simp at e0 e1 e2 e3
    subst e0 e1 e2 e3
    have := bounds_u16 w0
    have := bounds_u16 w1
    have := bounds_u16 w2
    have := bounds_u16 w3
    exact ⟨x0, x1, x2, x3, rfl, by omega, by omega, by omega, by omega⟩
end
end Go.Proofs.YtogepklmmehbjaaDoor
