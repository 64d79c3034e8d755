/-
  Get and Set at any offset.
-/
import Derived.Test.YtjaldngafappdaaSet
set_option linter.unusedVariables false
set_option linter.unusedSimpArgs false
namespace Go.Proofs.Ytjaldngafappdaa
open Go.RowKit Go.Lib

theorem badO_false {off : Int} (h0 : 0 ≤ off) (h : badO off = false) : off = 0 ∨ off = 4 ∨ off = 8 ∨ off = 12 ∨ off = 16 ∨ off = 20 ∨ off = 24 ∨ off = 28 := by
  unfold badO at h
  simp at h
  omega

/-- What Get answers. -/
def gE (S : Ua) (off : Int) : Ending := .returned (.tuple #[.int .u32 (gV S off), .bool (!badO off)])

theorem get_any {B b : Nat} {S : Ua} {w : World} (h : IsU B b S w) (off : Int) (ho : 0 ≤ off) :
    Calls Try.prog 11 #[.pointer (some ⟨b, 0, none⟩), .int .u32 off] w fun e w' => e = gE S off ∧ IsU B b (gS S off) w' ∧ Left B b w w' := by
  cases hb : badO off with
  | true =>
    refine (get_bad b off w ho hb).mono ?_
    rintro e w' ⟨rfl, rfl⟩
    have h1 : off ≠ 0 := fun e => by subst e; cases hb
    have h2 : off ≠ 20 := fun e => by subst e; cases hb
    refine ⟨by simp [gE, gV, hb], ?_, Left.refl _ _ _⟩
    unfold gS
    rw [if_neg h1, if_neg h2]
    exact h
  | false =>
    rcases badO_false ho hb with rfl | rfl | rfl | rfl | rfl | rfl | rfl | rfl
    · cases ot : otB S with
      | true => exact (get_0_other h ot).mono fun e w' ⟨h1, h2, h3⟩ => ⟨by rw [h1]; simp [gE, gV, badO, ot], by simpa [gS, ot] using h2, h3⟩
      | false => exact (get_0 h ot).mono fun e w' ⟨h1, h2, h3⟩ => ⟨by rw [h1]; simp [gE, gV, badO, ot], by simpa [gS, ot] using h2, h3⟩
    · cases ot : otB S with
      | true => exact (get_4_other h ot).mono fun e w' ⟨h1, h2, h3⟩ => ⟨by rw [h1]; simp [gE, gV, badO, ot], by simpa [gS, ot] using h2, h3⟩
      | false => exact (get_4 h ot).mono fun e w' ⟨h1, h2, h3⟩ => ⟨by rw [h1]; simp [gE, gV, badO, ot], by simpa [gS, ot] using h2, h3⟩
    · cases ot : upB S with
      | true => exact (get_8_up h ot).mono fun e w' ⟨h1, h2, h3⟩ => ⟨by rw [h1]; simp [gE, gV, badO, ot], by simpa [gS] using h2, h3⟩
      | false => exact (get_8_no h ot).mono fun e w' ⟨h1, h2, h3⟩ => ⟨by rw [h1]; simp [gE, gV, badO, ot], by simpa [gS] using h2, h3⟩
    · exact (get_12 h).mono fun e w' ⟨h1, h2, h3⟩ => ⟨by rw [h1]; simp [gE, gV, badO], by simpa [gS] using h2, h3⟩
    · exact (get_16 h).mono fun e w' ⟨h1, h2, h3⟩ => ⟨by rw [h1]; simp [gE, gV, badO], by simpa [gS] using h2, h3⟩
    · exact (get_20 h).mono fun e w' ⟨h1, h2, h3⟩ => ⟨by rw [h1]; simp [gE, gV, badO], by simpa [gS] using h2, h3⟩
    · exact (get_24 h).mono fun e w' ⟨h1, h2, h3⟩ => ⟨by rw [h1]; simp [gE, gV, badO], by simpa [gS] using h2, h3⟩
    · exact (get_28 h).mono fun e w' ⟨h1, h2, h3⟩ => ⟨by rw [h1]; simp [gE, gV, badO], by simpa [gS] using h2, h3⟩

theorem set_any {B b : Nat} {S : Ua} {w : World} (h : IsU B b S w) (off v : Int) (ho : 0 ≤ off) (c : UInt8) (hv : bits .and .u32 v 255 = (c.toNat : Int)) (hlen : S.o.length + 1 ≤ 140737488355328) (hBw : B ≤ w.heap.size) :
    Calls Try.prog 14 #[.pointer (some ⟨b, 0, none⟩), .int .u32 off, .int .u32 v] w fun e w' => e = .returned (.bool (!badO off)) ∧ IsU B b (sS S off c) w' ∧ Left B b w w' := by
  cases hb : badO off with
  | true =>
    refine (set_bad b off v w ho hb).mono ?_
    rintro e w' ⟨rfl, rfl⟩
    refine ⟨by simp, ?_, Left.refl _ _ _⟩
    unfold sS
    rw [if_pos hb]
    exact h
  | false =>
    rcases badO_false ho hb with rfl | rfl | rfl | rfl | rfl | rfl | rfl | rfl
    · cases ot : otB S with
      | true => exact (set_0_other h v c hv ot).mono fun e w' ⟨h1, h2, h3⟩ => ⟨by rw [h1]; rfl, by simpa [sS, badO, ot] using h2, h3⟩
      | false => exact (set_0 h v c hv ot hlen hBw).mono fun e w' ⟨h1, h2, h3⟩ => ⟨by rw [h1]; rfl, by simpa [sS, badO, ot] using h2, h3⟩
    · cases ot : otB S with
      | true => exact (set_4_other h v c hv ot).mono fun e w' ⟨h1, h2, h3⟩ => ⟨by rw [h1]; rfl, by simpa [sS, badO, ot] using h2, h3⟩
      | false => exact (set_4 h v c hv ot).mono fun e w' ⟨h1, h2, h3⟩ => ⟨by rw [h1]; rfl, by simpa [sS, badO, ot] using h2, h3⟩
    · cases ot : clB c with
      | true => exact (set_8_clear h v c hv ot).mono fun e w' ⟨h1, h2, h3⟩ => ⟨by rw [h1]; rfl, by simpa [sS, badO, ot] using h2, h3⟩
      | false => exact (set_8_no h v c hv ot).mono fun e w' ⟨h1, h2, h3⟩ => ⟨by rw [h1]; rfl, by simpa [sS, badO, ot] using h2, h3⟩
    · exact (set_12 h v c hv).mono fun e w' ⟨h1, h2, h3⟩ => ⟨by rw [h1]; rfl, by simpa [sS, badO] using h2, h3⟩
    · exact (set_16 h v c hv).mono fun e w' ⟨h1, h2, h3⟩ => ⟨by rw [h1]; rfl, by simpa [sS, badO] using h2, h3⟩
    · exact (set_20 h v c hv).mono fun e w' ⟨h1, h2, h3⟩ => ⟨by rw [h1]; rfl, by simpa [sS, badO] using h2, h3⟩
    · exact (set_24 h v c hv).mono fun e w' ⟨h1, h2, h3⟩ => ⟨by rw [h1]; rfl, by simpa [sS, badO] using h2, h3⟩
    · exact (set_28 h v c hv).mono fun e w' ⟨h1, h2, h3⟩ => ⟨by rw [h1]; rfl, by simpa [sS, badO] using h2, h3⟩
end Go.Proofs.Ytjaldngafappdaa
