/-
  What the arguments of the laws hold.
-/
import Derived.Test.YtjaldngafappdaaRows
import Derived.ProofKit
import Derived.OpenShut
import Derived.Below
import Derived.Laws.IdiomArrays
import Derived.ChangeSlices
namespace Go.Proofs.Ytjaldngafappdaa
open Go.ChangeShapes Go.WideShapes Go.ChangeAt Go.RowKit

theorem own17 : ownKnob Try.prog.godebug = none := by kernel_rfl
theorem laidOut17 : laidOutB Try.prog = true := by kernel_rfl
theorem cells26 : Try.prog.cellsOf 26 = 1 := by kernel_rfl
theorem cells46 : Try.prog.cellsOf 46 = 4 := by kernel_rfl

section
variable {H : Type} {enc : TypeId × Value → H} {w : World} {base : Nat} {spare : Nat → Bool} {held : Bool}

theorem open_arr4 {r : Reach} {b0 : Nat} {v : Value} {d : DataW H} {p : List MemPlace} (hv : Value.okWide Try.prog w r b0 46 v) (h : DataW.Trod enc Try.prog w base spare held 46 v d p) :
    ∃ a b c e, v = .agg #[.int .u32 a, .int .u32 b, .int .u32 c, .int .u32 e] ∧ (0 ≤ a ∧ a < 4294967296) ∧ (0 ≤ b ∧ b < 4294967296) ∧ (0 ≤ c ∧ c < 4294967296) ∧ (0 ≤ e ∧ e < 4294967296) := by
  obtain ⟨cs, rfl, hsz, _⟩ : ∃ cs, v = .agg cs ∧ cs.size = Try.prog.cellsOf 46 ∧ Row.okWide Try.prog w r b0 46 cs := by
    simpa [Value.okWide, Try.underlying46] using hv
  obtain ⟨l⟩ := cs
  match l, hsz.trans cells46 with
  | [c0, c1, c2, c3], _ =>
    obtain ⟨fuel, hf⟩ := h
    obtain ⟨y0, y1, y2, y3, m, hx, hy0, hy1, hy2, hy3⟩ := trod_array4 Try.underlying46 cells26 hf
    obtain ⟨x0, e0, _, w0⟩ := DataW.trod_int Try.underlying26 hy0
    obtain ⟨x1, e1, _, w1⟩ := DataW.trod_int Try.underlying26 hy1
    obtain ⟨x2, e2, _, w2⟩ := DataW.trod_int Try.underlying26 hy2
    obtain ⟨x3, e3, _, w3⟩ := DataW.trod_int Try.underlying26 hy3
    simp at e0 e1 e2 e3
    subst e0 e1 e2 e3
    have := bounds_u32 w0
    have := bounds_u32 w1
    have := bounds_u32 w2
    have := bounds_u32 w3
    exact ⟨x0, x1, x2, x3, rfl, by omega, by omega, by omega, by omega⟩

/-- v is a slice of the bytes bs. -/
def BytesAt (v : Value) (bs : List UInt8) (w : World) : Prop :=
  (∃ a cap, v = .slice a 0 cap ∧ bs = []) ∨
  ∃ g off cap, v = .slice (some ⟨g, off, none⟩) bs.length cap ∧ bs.length ≤ maxLen ∧ g < w.heap.size ∧ ∀ j, j < bs.length → w.cell? ⟨g, off + j, none⟩ = some (.int .u8 ((bs.getD j 0).toNat : Int))

theorem cells5 : Try.prog.cellsOf 5 = 1 := by kernel_rfl
theorem open_bytes_arg {r : Reach} {b0 : Nat} {v : Value} {d : DataW H} {p : List MemPlace} (hv : Value.okWide Try.prog w r b0 43 v) (h : DataW.Trod enc Try.prog w base (fun _ => true) held 43 v d p) : ∃ bs, BytesAt v bs w := by
  obtain ⟨a, len, cap, rfl⟩ := okWide_slice Try.underlying43 hv
  obtain ⟨fuel, hf⟩ := h
  rcases open_ints Try.underlying43 Try.underlying5 cells5 hf with ⟨hcs, _⟩ | ⟨a', len', cap', zs, hcs, _, hl, hm, hz, _, hcell, hwz⟩
  · simp [Value.cells] at hcs
    obtain ⟨rfl, rfl, rfl⟩ := hcs
    exact ⟨[], .inl ⟨none, 0, rfl, rfl⟩⟩
  · simp [Value.cells] at hcs
    obtain ⟨rfl, rfl, rfl⟩ := hcs
    simp only [if_true] at hz
    rcases Nat.eq_zero_or_pos len with h0 | h0
    · subst h0
      exact ⟨[], .inl ⟨_, _, rfl, rfl⟩⟩
    · obtain ⟨g, off, rfl, hc⟩ := ints_at hcell (by omega)
      have hlen : ((zs.take len).map fun n => UInt8.ofNat n.toNat).length = len := by simp; omega
      refine ⟨(zs.take len).map fun n => UInt8.ofNat n.toNat, .inr ⟨g, off, cap, by rw [hlen], by rw [hlen]; omega, ?_, ?_⟩⟩
      · have h1 := hc 0 (by omega)
        rcases Nat.lt_or_ge g w.heap.size with h2 | h2
        · exact h2
        · simp [World.cell?, Array.getElem?_eq_none h2] at h1
      · intro j hj
        rw [hlen] at hj
        rw [hc j (by omega)]
        have hj2 : j < zs.length := by omega
        have e1 : zs.getD j 0 = zs[j] := by simp [List.getD, hj2]
        have e2 : ((zs.take len).map fun n => UInt8.ofNat n.toNat).getD j 0 = UInt8.ofNat zs[j].toNat := by simp [List.getD, hj, hj2]
        have hb := bounds_u8 (hwz zs[j] (List.getElem_mem hj2))
        rw [e1, e2]
        have : (UInt8.ofNat zs[j].toNat).toNat = zs[j].toNat := by simp; omega
        rw [this]
        congr 2
        omega
end
end Go.Proofs.Ytjaldngafappdaa
