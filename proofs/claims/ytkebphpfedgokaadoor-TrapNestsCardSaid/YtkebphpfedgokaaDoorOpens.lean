/-
  A state as an argument: what its cells hold.
-/
import Derived.Test.YtkebphpfedgokaaDoorOpen
import Derived.Test.YtkebphpfedgokaaDoorState
namespace Go.Proofs.YtkebphpfedgokaaDoor
open Go.ChangeShapes Go.WideShapes Go.ChangeAt Go.RowKit

theorem cells3 : Tryd.prog.cellsOf 3 = 1 := by kernel_rfl
theorem cells23 : Tryd.prog.cellsOf 23 = 1 := by kernel_rfl
theorem cells25 : Tryd.prog.cellsOf 25 = 17 := by kernel_rfl
theorem cells27 : Tryd.prog.cellsOf 27 = 19 := by kernel_rfl
def W32 (x : Int) : Prop := 0 ≤ x ∧ x < 4294967296
structure Wf (s : St) : Prop where
  h0 : W32 s.x0
  h1 : W32 s.x1
  h2 : W32 s.x2
  h3 : W32 s.x3
  h4 : W32 s.x4
  h5 : W32 s.x5
  h6 : W32 s.x6
  h7 : W32 s.x7
  h8 : W32 s.x8
  h9 : W32 s.x9
  h10 : W32 s.x10
  h11 : W32 s.x11
  h12 : W32 s.x12
  h13 : W32 s.x13
  h14 : W32 s.x14
  h15 : W32 s.x15
  hpc : W32 s.pc

section
variable {H : Type} {enc : TypeId × Value → H} {w : World} {base : Nat} {spare : Nat → Bool} {held : Bool}

theorem int_field {t : TypeId} {k : IntKind} {n i : Nat} {cs : List Value} {xs : List (DataW H × List MemPlace)} (ht : Tryd.prog.underlying t = some (.int k)) (hi : i < xs.length)
    (h : DataW.trod enc Tryd.prog w base spare held n t cs = xs[i]?) : ∃ m, cs = [.int k m] ∧ (Lit.int k m).wf = true := by
  rw [List.getElem?_eq_getElem hi] at h
  obtain ⟨m, h1, _, h3⟩ := DataW.trod_int ht h
  exact ⟨m, h1, h3⟩

theorem open_state {r : Reach} {b0 : Nat} {v : Value} {d : DataW H} {p : List MemPlace} (hv : Value.okWide Tryd.prog w r b0 27 v) (h : DataW.Trod enc Tryd.prog w base spare held 27 v d p) :
    ∃ s : St, v = .agg s.r ∧ Wf s := by
  obtain ⟨cs, rfl, hsz⟩ := okWide_struct Tryd.underlying27 hv
  obtain ⟨l⟩ := cs
  match l, hsz.trans cells27 with
  | [c0, c1, c2, c3, c4, c5, c6, c7, c8, c9, c10, c11, c12, c13, c14, c15, c16, cp, cpc], _ =>
    obtain ⟨fuel, hf⟩ := h
    obtain ⟨xs, n, _, _, _, hlen, hg⟩ := DataW.trod_struct Tryd.underlying27 hf
    replace hlen : xs.length = 3 := hlen
    have hg0 := hg 0 _ rfl
    rw [List.getElem?_eq_getElem (by rw [hlen]; decide)] at hg0
    obtain ⟨ys, m, _, _, _, hlen2, hf2⟩ := DataW.trod_struct Tryd.underlying25 hg0
    replace hlen2 : ys.length = 17 := hlen2
    obtain ⟨n0, e0, w0⟩ := int_field Tryd.underlying22 (i := 0) (by rw [hlen2]; decide) (hf2 0 _ rfl)
    simp [cells22, cells25, Value.cells] at e0
    subst e0
    obtain ⟨n1, e1, w1⟩ := int_field Tryd.underlying22 (i := 1) (by rw [hlen2]; decide) (hf2 1 _ rfl)
    simp [cells22, cells25, Value.cells] at e1
    subst e1
    obtain ⟨n2, e2, w2⟩ := int_field Tryd.underlying22 (i := 2) (by rw [hlen2]; decide) (hf2 2 _ rfl)
    simp [cells22, cells25, Value.cells] at e2
    subst e2
    obtain ⟨n3, e3, w3⟩ := int_field Tryd.underlying22 (i := 3) (by rw [hlen2]; decide) (hf2 3 _ rfl)
    simp [cells22, cells25, Value.cells] at e3
    subst e3
    obtain ⟨n4, e4, w4⟩ := int_field Tryd.underlying22 (i := 4) (by rw [hlen2]; decide) (hf2 4 _ rfl)
    simp [cells22, cells25, Value.cells] at e4
    subst e4
    obtain ⟨n5, e5, w5⟩ := int_field Tryd.underlying22 (i := 5) (by rw [hlen2]; decide) (hf2 5 _ rfl)
    simp [cells22, cells25, Value.cells] at e5
    subst e5
    obtain ⟨n6, e6, w6⟩ := int_field Tryd.underlying22 (i := 6) (by rw [hlen2]; decide) (hf2 6 _ rfl)
    simp [cells22, cells25, Value.cells] at e6
    subst e6
    obtain ⟨n7, e7, w7⟩ := int_field Tryd.underlying22 (i := 7) (by rw [hlen2]; decide) (hf2 7 _ rfl)
    simp [cells22, cells25, Value.cells] at e7
    subst e7
    obtain ⟨n8, e8, w8⟩ := int_field Tryd.underlying22 (i := 8) (by rw [hlen2]; decide) (hf2 8 _ rfl)
    simp [cells22, cells25, Value.cells] at e8
    subst e8
    obtain ⟨n9, e9, w9⟩ := int_field Tryd.underlying22 (i := 9) (by rw [hlen2]; decide) (hf2 9 _ rfl)
    simp [cells22, cells25, Value.cells] at e9
    subst e9
    obtain ⟨n10, e10, w10⟩ := int_field Tryd.underlying22 (i := 10) (by rw [hlen2]; decide) (hf2 10 _ rfl)
    simp [cells22, cells25, Value.cells] at e10
    subst e10
    obtain ⟨n11, e11, w11⟩ := int_field Tryd.underlying22 (i := 11) (by rw [hlen2]; decide) (hf2 11 _ rfl)
    simp [cells22, cells25, Value.cells] at e11
    subst e11
    obtain ⟨n12, e12, w12⟩ := int_field Tryd.underlying22 (i := 12) (by rw [hlen2]; decide) (hf2 12 _ rfl)
    simp [cells22, cells25, Value.cells] at e12
    subst e12
    obtain ⟨n13, e13, w13⟩ := int_field Tryd.underlying22 (i := 13) (by rw [hlen2]; decide) (hf2 13 _ rfl)
    simp [cells22, cells25, Value.cells] at e13
    subst e13
    obtain ⟨n14, e14, w14⟩ := int_field Tryd.underlying22 (i := 14) (by rw [hlen2]; decide) (hf2 14 _ rfl)
    simp [cells22, cells25, Value.cells] at e14
    subst e14
    obtain ⟨n15, e15, w15⟩ := int_field Tryd.underlying22 (i := 15) (by rw [hlen2]; decide) (hf2 15 _ rfl)
    simp [cells22, cells25, Value.cells] at e15
    subst e15
    obtain ⟨n16, e16, w16⟩ := int_field Tryd.underlying23 (i := 16) (by rw [hlen2]; decide) (hf2 16 _ rfl)
    simp [cells23, cells25, Value.cells] at e16
    subst e16
    obtain ⟨np, ep, wp⟩ := int_field Tryd.underlying3 (i := 1) (by rw [hlen]; decide) (hg 1 _ rfl)
    simp [cells3, Value.cells] at ep
    subst ep
    obtain ⟨nc, ec, wc⟩ := int_field Tryd.underlying22 (i := 2) (by rw [hlen]; decide) (hg 2 _ rfl)
    simp [cells22, Value.cells] at ec
    subst ec
    refine ⟨⟨n0, n1, n2, n3, n4, n5, n6, n7, n8, n9, n10, n11, n12, n13, n14, n15, n16, np, nc⟩, rfl, ?_, ?_, ?_, ?_, ?_, ?_, ?_, ?_, ?_, ?_, ?_, ?_, ?_, ?_, ?_, ?_, ?_⟩
    · have := bounds_u32 w0; exact ⟨this.1, by show n0 < _; omega⟩
    · have := bounds_u32 w1; exact ⟨this.1, by show n1 < _; omega⟩
    · have := bounds_u32 w2; exact ⟨this.1, by show n2 < _; omega⟩
    · have := bounds_u32 w3; exact ⟨this.1, by show n3 < _; omega⟩
    · have := bounds_u32 w4; exact ⟨this.1, by show n4 < _; omega⟩
    · have := bounds_u32 w5; exact ⟨this.1, by show n5 < _; omega⟩
    · have := bounds_u32 w6; exact ⟨this.1, by show n6 < _; omega⟩
    · have := bounds_u32 w7; exact ⟨this.1, by show n7 < _; omega⟩
    · have := bounds_u32 w8; exact ⟨this.1, by show n8 < _; omega⟩
    · have := bounds_u32 w9; exact ⟨this.1, by show n9 < _; omega⟩
    · have := bounds_u32 w10; exact ⟨this.1, by show n10 < _; omega⟩
    · have := bounds_u32 w11; exact ⟨this.1, by show n11 < _; omega⟩
    · have := bounds_u32 w12; exact ⟨this.1, by show n12 < _; omega⟩
    · have := bounds_u32 w13; exact ⟨this.1, by show n13 < _; omega⟩
    · have := bounds_u32 w14; exact ⟨this.1, by show n14 < _; omega⟩
    · have := bounds_u32 w15; exact ⟨this.1, by show n15 < _; omega⟩
    · have := bounds_u32 wc; exact ⟨this.1, by show nc < _; omega⟩
end
end Go.Proofs.YtkebphpfedgokaaDoor
