/-
  A register file, and a put, as arguments: what their cells hold.
-/
import Derived.Test.YtpmgdidigfincaaAlive
import Derived.ProofKit
import Derived.OpenShut
import Derived.Below
namespace Go.Proofs.Ytpmgdidigfincaa
open Go.ChangeShapes Go.WideShapes Go.ChangeAt Go.RowKit

theorem own13 : ownKnob Try.prog.godebug = none := by kernel_rfl
theorem laidOut13 : laidOutB Try.prog = true := by kernel_rfl
theorem cells22 : Try.prog.cellsOf 22 = 1 := by kernel_rfl
theorem cells23 : Try.prog.cellsOf 23 = 1 := by kernel_rfl
theorem cells3 : Try.prog.cellsOf 3 = 1 := by kernel_rfl
theorem cells25 : Try.prog.cellsOf 25 = 17 := by kernel_rfl
theorem cells33 : Try.prog.cellsOf 33 = 3 := by kernel_rfl

section
variable {H : Type} {enc : TypeId × Value → H} {w : World} {base : Nat} {spare : Nat → Bool} {held : Bool}

theorem int_field {t : TypeId} {k : IntKind} {n i : Nat} {cs : List Value} {xs : List (DataW H × List MemPlace)} (ht : Try.prog.underlying t = some (.int k)) (hi : i < xs.length)
    (h : DataW.trod enc Try.prog w base spare held n t cs = xs[i]?) : ∃ m, cs = [.int k m] ∧ (Lit.int k m).wf = true := by
  rw [List.getElem?_eq_getElem hi] at h
  obtain ⟨m, h1, _, h3⟩ := DataW.trod_int ht h
  exact ⟨m, h1, h3⟩

theorem open_file {r : Reach} {b0 : Nat} {v : Value} {d : DataW H} {p : List MemPlace} (hv : Value.okWide Try.prog w r b0 25 v) (h : DataW.Trod enc Try.prog w base spare held 25 v d p) :
    ∃ f, v = fileV f ∧ Fits f := by
  obtain ⟨cs, rfl, hsz⟩ := okWide_struct Try.underlying25 hv
  obtain ⟨l⟩ := cs
  match l, hsz.trans cells25 with
  | [c0, c1, c2, c3, c4, c5, c6, c7, c8, c9, c10, c11, c12, c13, c14, c15, c16], _ =>
    obtain ⟨fuel, hf⟩ := h
    obtain ⟨xs, n, _, _, _, hlen, hg⟩ := DataW.trod_struct Try.underlying25 hf
    replace hlen : xs.length = 17 := hlen
    obtain ⟨n0, e0, w0⟩ := int_field Try.underlying22 (i := 0) (by rw [hlen]; decide) (hg 0 _ rfl)
    simp [cells22, Value.cells] at e0
    subst e0
    obtain ⟨n1, e1, w1⟩ := int_field Try.underlying22 (i := 1) (by rw [hlen]; decide) (hg 1 _ rfl)
    simp [cells22, Value.cells] at e1
    subst e1
    obtain ⟨n2, e2, w2⟩ := int_field Try.underlying22 (i := 2) (by rw [hlen]; decide) (hg 2 _ rfl)
    simp [cells22, Value.cells] at e2
    subst e2
    obtain ⟨n3, e3, w3⟩ := int_field Try.underlying22 (i := 3) (by rw [hlen]; decide) (hg 3 _ rfl)
    simp [cells22, Value.cells] at e3
    subst e3
    obtain ⟨n4, e4, w4⟩ := int_field Try.underlying22 (i := 4) (by rw [hlen]; decide) (hg 4 _ rfl)
    simp [cells22, Value.cells] at e4
    subst e4
    obtain ⟨n5, e5, w5⟩ := int_field Try.underlying22 (i := 5) (by rw [hlen]; decide) (hg 5 _ rfl)
    simp [cells22, Value.cells] at e5
    subst e5
    obtain ⟨n6, e6, w6⟩ := int_field Try.underlying22 (i := 6) (by rw [hlen]; decide) (hg 6 _ rfl)
    simp [cells22, Value.cells] at e6
    subst e6
    obtain ⟨n7, e7, w7⟩ := int_field Try.underlying22 (i := 7) (by rw [hlen]; decide) (hg 7 _ rfl)
    simp [cells22, Value.cells] at e7
    subst e7
    obtain ⟨n8, e8, w8⟩ := int_field Try.underlying22 (i := 8) (by rw [hlen]; decide) (hg 8 _ rfl)
    simp [cells22, Value.cells] at e8
    subst e8
    obtain ⟨n9, e9, w9⟩ := int_field Try.underlying22 (i := 9) (by rw [hlen]; decide) (hg 9 _ rfl)
    simp [cells22, Value.cells] at e9
    subst e9
    obtain ⟨n10, e10, w10⟩ := int_field Try.underlying22 (i := 10) (by rw [hlen]; decide) (hg 10 _ rfl)
    simp [cells22, Value.cells] at e10
    subst e10
    obtain ⟨n11, e11, w11⟩ := int_field Try.underlying22 (i := 11) (by rw [hlen]; decide) (hg 11 _ rfl)
    simp [cells22, Value.cells] at e11
    subst e11
    obtain ⟨n12, e12, w12⟩ := int_field Try.underlying22 (i := 12) (by rw [hlen]; decide) (hg 12 _ rfl)
    simp [cells22, Value.cells] at e12
    subst e12
    obtain ⟨n13, e13, w13⟩ := int_field Try.underlying22 (i := 13) (by rw [hlen]; decide) (hg 13 _ rfl)
    simp [cells22, Value.cells] at e13
    subst e13
    obtain ⟨n14, e14, w14⟩ := int_field Try.underlying22 (i := 14) (by rw [hlen]; decide) (hg 14 _ rfl)
    simp [cells22, Value.cells] at e14
    subst e14
    obtain ⟨n15, e15, w15⟩ := int_field Try.underlying22 (i := 15) (by rw [hlen]; decide) (hg 15 _ rfl)
    simp [cells22, Value.cells] at e15
    subst e15
    obtain ⟨n16, e16, w16⟩ := int_field Try.underlying23 (i := 16) (by rw [hlen]; decide) (hg 16 _ rfl)
    simp [cells23, Value.cells] at e16
    subst e16
    refine ⟨fun i => [n0, n1, n2, n3, n4, n5, n6, n7, n8, n9, n10, n11, n12, n13, n14, n15, n16].getD i 0, rfl, fun i hi => ?_, ?_⟩
    · match i, hi with
      | 0, _ => have := bounds_u32 w0; exact ⟨this.1, by simp; omega⟩
      | 1, _ => have := bounds_u32 w1; exact ⟨this.1, by simp; omega⟩
      | 2, _ => have := bounds_u32 w2; exact ⟨this.1, by simp; omega⟩
      | 3, _ => have := bounds_u32 w3; exact ⟨this.1, by simp; omega⟩
      | 4, _ => have := bounds_u32 w4; exact ⟨this.1, by simp; omega⟩
      | 5, _ => have := bounds_u32 w5; exact ⟨this.1, by simp; omega⟩
      | 6, _ => have := bounds_u32 w6; exact ⟨this.1, by simp; omega⟩
      | 7, _ => have := bounds_u32 w7; exact ⟨this.1, by simp; omega⟩
      | 8, _ => have := bounds_u32 w8; exact ⟨this.1, by simp; omega⟩
      | 9, _ => have := bounds_u32 w9; exact ⟨this.1, by simp; omega⟩
      | 10, _ => have := bounds_u32 w10; exact ⟨this.1, by simp; omega⟩
      | 11, _ => have := bounds_u32 w11; exact ⟨this.1, by simp; omega⟩
      | 12, _ => have := bounds_u32 w12; exact ⟨this.1, by simp; omega⟩
      | 13, _ => have := bounds_u32 w13; exact ⟨this.1, by simp; omega⟩
      | 14, _ => have := bounds_u32 w14; exact ⟨this.1, by simp; omega⟩
      | 15, _ => have := bounds_u32 w15; exact ⟨this.1, by simp; omega⟩
      | k + 16, hi => exact absurd hi (by omega)
    · have := bounds_u64 w16
      simp
      omega

theorem open_put {r : Reach} {b0 : Nat} {v : Value} {d : DataW H} {p : List MemPlace} (hv : Value.okWide Try.prog w r b0 33 v) (h : DataW.Trod enc Try.prog w base spare held 33 v d p) :
    ∃ a b c, v = .agg #[.int .i64 a, .int .i64 b, .int .u32 c] ∧ 0 ≤ c ∧ c < 4294967296 := by
  obtain ⟨cs, rfl, hsz⟩ := okWide_struct Try.underlying33 hv
  obtain ⟨l⟩ := cs
  match l, hsz.trans cells33 with
  | [c0, c1, c2], _ =>
    obtain ⟨fuel, hf⟩ := h
    obtain ⟨xs, n, _, _, _, hlen, hg⟩ := DataW.trod_struct Try.underlying33 hf
    replace hlen : xs.length = 3 := hlen
    obtain ⟨n0, e0, w0⟩ := int_field Try.underlying3 (i := 0) (by rw [hlen]; decide) (hg 0 _ rfl)
    simp [cells3, Value.cells] at e0
    subst e0
    obtain ⟨n1, e1, w1⟩ := int_field Try.underlying3 (i := 1) (by rw [hlen]; decide) (hg 1 _ rfl)
    simp [cells3, Value.cells] at e1
    subst e1
    obtain ⟨n2, e2, w2⟩ := int_field Try.underlying22 (i := 2) (by rw [hlen]; decide) (hg 2 _ rfl)
    simp [cells22, Value.cells] at e2
    subst e2
    have := bounds_u32 w2
    exact ⟨n0, n1, n2, rfl, by omega, by omega⟩
end
end Go.Proofs.Ytpmgdidigfincaa
