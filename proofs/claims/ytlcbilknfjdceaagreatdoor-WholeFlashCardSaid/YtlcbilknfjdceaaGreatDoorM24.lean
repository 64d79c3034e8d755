/-
  WholeFlash, part 24 of 44: Asks.
-/
import Derived.Test.YtlcbilknfjdceaaGreatDoorM23
section
/-
  The store: what is asked of it first.
-/
set_option linter.unusedVariables false
set_option linter.unusedSimpArgs false
namespace Go.Proofs.YtlcbilknfjdceaaGreatDoor
open Go.RowKit Go.Lib
structure StAt (w : World) (s d g cap : Nat) : Prop where
  a : w.cell? ⟨s, 0, none⟩ = some (.pointer (some ⟨d, 0, none⟩))
  b : w.cell? ⟨s, 1, none⟩ = some (.slice (some ⟨g, 0, none⟩) 5 cap)
  c : w.cell? ⟨s, 5, none⟩ = some (.bool false)
theorem stAt {B : Nat} {W w : World} {K : Blocks} {s d g cap : Nat} {pl rt : Value} {seq : Int} (h : KW B W ((s, sO (.pointer (some ⟨d, 0, none⟩)) g cap pl rt seq) :: K) w) : StAt w s d g cap :=
  have hg := h.get (g := s) (o := sO (.pointer (some ⟨d, 0, none⟩)) g cap pl rt seq) List.mem_cons_self
  ⟨cell_at hg 0, cell_at hg 1, cell_at hg 5⟩
theorem good63 {w : World} {s d g cap : Nat} (h : StAt w s d g cap) : Calls Tryz.prog 63 #[.pointer (some ⟨s, 0, none⟩)] w fun e w' => e = .returned (.bool true) ∧ w' = w := by
  have ha := h.a
  clear h
  go_enter Tryz.func63, Tryz.ntmps63
  go_wp2
  go_ret
  exact ⟨rfl, rfl⟩
theorem sectors64 {w : World} {s d g cap : Nat} (h : StAt w s d g cap) : Calls Tryz.prog 64 #[.pointer (some ⟨s, 0, none⟩)] w fun e w' => e = .returned (.int .i64 12) ∧ w' = w := by
  have hb := h.b
  have H := _root_.Go.Lib.hid h
  clear h
  go_enter Tryz.func64, Tryz.ntmps64
  go_wp2_with (go_at_call 63; refine (good63 H.out).mono ?_; rintro e w' ⟨rfl, rfl⟩)
  go_ret
  exact ⟨rfl, rfl⟩
def chkV (i : Int) : Int := if i < 0 ∨ 12 ≤ i then 10 else 0
theorem check34 {w : World} {s d g cap : Nat} (h : StAt w s d g cap) (i : Int) : Calls Tryz.prog 34 #[.pointer (some ⟨s, 0, none⟩), .int .i64 i] w fun e w' => e = .returned (.int .i64 (chkV i)) ∧ w' = w := by
  have hc := h.c
  have H := _root_.Go.Lib.hid h
  clear h
  by_cases h0 : i < 0
  · have e : chkV i = 10 := if_pos (.inl h0)
    rw [e]
    go_enter Tryz.func34, Tryz.ntmps34
    go_wp2_with (first | (go_at_call 63; refine (good63 H.out).mono ?_; rintro e w' ⟨rfl, rfl⟩) | (go_at_call 64; refine (sectors64 H.out).mono ?_; rintro e w' ⟨rfl, rfl⟩))
    go_ret
    exact ⟨rfl, rfl⟩
  · by_cases h1 : 12 ≤ i
    · have e : chkV i = 10 := if_pos (.inr h1)
      rw [e]
      go_enter Tryz.func34, Tryz.ntmps34
      go_wp2_with (first | (go_at_call 63; refine (good63 H.out).mono ?_; rintro e w' ⟨rfl, rfl⟩) | (go_at_call 64; refine (sectors64 H.out).mono ?_; rintro e w' ⟨rfl, rfl⟩))
      go_ret
      exact ⟨rfl, rfl⟩
    · have e : chkV i = 0 := if_neg (by omega)
      rw [e]
      go_enter Tryz.func34, Tryz.ntmps34
      go_wp2_with (first | (go_at_call 63; refine (good63 H.out).mono ?_; rintro e w' ⟨rfl, rfl⟩) | (go_at_call 64; refine (sectors64 H.out).mono ?_; rintro e w' ⟨rfl, rfl⟩))
      go_ret
      exact ⟨rfl, rfl⟩
theorem keep37 {B : Nat} {W w : World} {K : Blocks} {s g cap : Nat} {dv pl rt : Value} {seq e : Int} (h : KW B W ((s, sO dv g cap pl rt seq) :: K) w) (he : e ≠ 4) :
    Calls Tryz.prog 37 #[.pointer (some ⟨s, 0, none⟩), .int .i64 e] w fun r w' => r = .returned (.int .i64 e) ∧ KW B W ((s, sO dv g cap pl rt seq) :: K) w' := by
  have m5 : w.cell? ⟨s, 5, none⟩ = some (.bool false) := cell_at (h.get (g := s) (o := sO dv g cap pl rt seq) (by simp)) 5
  have f5 : w.frozen? ⟨s, 5, none⟩ = false := free_at (h.get (g := s) (o := sO dv g cap pl rt seq) (by simp)) 5
  have h2 := KW.cell (i := 5) (x := .bool false) (vs := #[dv, .slice (some ⟨g, 0, none⟩) 5 cap, pl, rt, .int .u32 seq, .bool false]) h rfl
  have H := _root_.Go.Lib.hid h2
  have hne : (e == 4) = false := by simp [he]
  clear h h2 he
  go_enter Tryz.func37, Tryz.ntmps37
  go_wp2
  go_ret
  exact ⟨rfl, H.out⟩
end Go.Proofs.YtlcbilknfjdceaaGreatDoor
end
