/-
  String, Reset and Out: the bytes that went, and that they are gone.
-/
import Derived.Test.YtjaldngafappdaaWent
import Derived.StillTailTactics
set_option linter.unusedVariables false
set_option linter.unusedSimpArgs false
namespace Go.Proofs.Ytjaldngafappdaa
open Go.RowKit Go.Lib

theorem cellsByte : Try.prog.cellsOf 5 = 1 := by kernel_rfl

set_option maxHeartbeats 2000000 in
set_option maxRecDepth 100000 in
theorem string_nil (b : Nat) (w : World) (c1 : w.cell? ⟨b, 2, none⟩ = some (.slice none 0 0)) :
    Calls Try.prog 26 #[.pointer (some ⟨b, 1, none⟩)] w fun e w' => e = .returned (.string ⟨#[]⟩) ∧ w' = w.drew := by
  have hUS : ∀ W : World, (Builtin.unsafeString_ #[63, 3] 9 #[.pointer none, .int .i64 0]).run Try.prog W = .ok (.string .empty) W := fun W => Lib.run_unsafeString_none W _ _ _ none
  have c1' : w.drew.cell? ⟨b, 2, none⟩ = some (.slice none 0 0) := c1
  have hSD : (Builtin.unsafeSliceData_ #[43] 63 #[.slice none 0 0]).run Try.prog w.drew = .ok (.pointer none) w.drew := rfl
  go_enter Try.func26, Try.ntmps26
  go_wp2
  go_still_tail 10, (by kernel_rfl)
  go_wp2
  go_ret
  exact ⟨rfl, rfl⟩

set_option maxHeartbeats 2000000 in
set_option maxRecDepth 100000 in
theorem string_some (B b g cap : Nat) (cur : Array Value) (l : List UInt8) (w : World) (h0 : l ≠ []) (c1 : w.cell? ⟨b, 2, none⟩ = some (.slice (some ⟨g, 0, none⟩) l.length cap))
    (hg : w.heap[g]? = some (.cells cur 5 (0, 0))) (hnc : l.length ≤ cap) (hcm : cap ≤ maxLen) (hcs : cur.size = cap * 1) (hown : w.ownsRow B 5 1 (.slice (some ⟨g, 0, none⟩) l.length cap) l.length (bcells l)) :
    Calls Try.prog 26 #[.pointer (some ⟨b, 1, none⟩)] w fun e w' => e = .returned (.string ⟨l.toArray⟩) ∧ w' = w.drew.freeze ⟨g, 0, none⟩ l.length := by
  have hl0 : l.length ≠ 0 := by simpa using h0
  have c1' : w.drew.cell? ⟨b, 2, none⟩ = some (.slice (some ⟨g, 0, none⟩) l.length cap) := c1
  have hSD : (Builtin.unsafeSliceData_ #[43] 63 #[.slice (some ⟨g, 0, none⟩) l.length cap]).run Try.prog w.drew = .ok (.pointer (some ⟨g, 0, none⟩)) w.drew :=
    Lib.run_unsafeSliceData_row _ _ _ _ _ _ (by omega)
  have hUS : (Builtin.unsafeString_ #[63, 3] 9 #[.pointer (some ⟨g, 0, none⟩), .int .i64 l.length]).run Try.prog w.drew = .ok (.string ⟨l.toArray⟩) (w.drew.freeze ⟨g, 0, none⟩ l.length) := by
    refine Lib.run_unsafeString_row w.drew 63 3 9 5 Try.underlying63 cellsByte g cur.size (by have hg' : w.drew.heap[g]? = some (.cells cur 5 (0, 0)) := hg; simp [World.shape?, hg']) l h0 (by omega) (by unfold maxLen at hcm; omega) ?_
    intro j x hx
    have := hown.cells (g := g) rfl j (.int .u8 x.toNat) (by simp [Lib.byteCells, hx])
    exact this
  have HG := _root_.Go.Lib.hid hg
  have HO := _root_.Go.Lib.hid hown
  clear hg hown
  go_enter Try.func26, Try.ntmps26
  go_wp2
  go_still_tail 10, (by kernel_rfl)
  go_wp2
  go_ret
  exact ⟨rfl, rfl⟩

/-- String, whatever it holds: the uart's row is as it was, what came too; the builder's row may be frozen. -/
def StrLeft (B b : Nat) (cv pv bv : Value) (S : Ua) (w w' : World) : Prop := w'.heap[b]? = some (.cells (uRow cv pv bv S.r S.ov) 55 (0, 0)) ∧ Row 5 B cv (bcells S.c) w' ∧ Left B b w w'

theorem heap_freeze_other (w : World) (a : Addr) (n k : Nat) (h : k ≠ a.block) : (w.freeze a n).heap[k]? = w.heap[k]? := by
  unfold World.freeze
  split
  · rfl
  · simp only [Array.getElem?_modify]
    rw [if_neg (by omega)]

theorem string_calls {B b : Nat} {cv pv bv : Value} {S : Ua} {w : World} (hU : IsUx B b cv pv bv S w) :
    Calls Try.prog 26 #[.pointer (some ⟨b, 1, none⟩)] w fun e w' => e = .returned (.string ⟨S.o.toArray⟩) ∧ StrLeft B b cv pv bv S w w' := by
  obtain ⟨c, o, r, ov⟩ := S
  have c1 := hU.cell 2
  cases o with
  | nil =>
    have hb : bv = .slice none 0 0 := hU.empt rfl
    subst hb
    refine (string_nil b w c1).mono ?_
    rintro e w' ⟨rfl, rfl⟩
    exact ⟨rfl, hU.row, hU.came.drew, (Left.refl B b w).drew⟩
  | cons x xs =>
    have hown := hU.went
    rcases hown with ⟨h0, ⟨_, h⟩ | ⟨g, cap, cur, hv, hb, hg, h1, h2, h3, h4⟩⟩
    · simp at h
    · have hown := hU.went
      subst hv
      refine (string_some B b g cap cur (x :: xs) w (by simp) c1 hg h1 h2 h3 hown).mono ?_
      rintro e w' ⟨rfl, rfl⟩
      have hgb : b ≠ g := fun e => hU.went_far (by simp [Value.ownBlock, e])
      refine ⟨rfl, ?_, ?_, ⟨below_freeze (Below.refl B w).drew hb _, (OthersKept.refl 5 (some b) w).drew.freeze _ _ ⟨cur, _, hg⟩⟩⟩
      · rw [heap_freeze_other _ _ _ _ hgb]; exact hU.row
      · refine hU.came.keep fun k hk o ho => ?_
        rw [heap_freeze_other _ _ _ _ (fun e => hU.apart k hk (by simp [Value.ownBlock, e]))]; exact ho

theorem reset_calls (b : Nat) (cv pv bv : Value) (r : Nat → Int) (ov : Bool) (w : World) (hw : w.heap[b]? = some (.cells (uRow cv pv bv r ov) 55 (0, 0))) :
    Calls Try.prog 27 #[.pointer (some ⟨b, 1, none⟩)] w fun e w' => e = .returned (.tuple #[]) ∧ w' = (w.setCell ⟨b, 1, none⟩ (.pointer none)).setCell ⟨b, 2, none⟩ (.slice none 0 0) := by
  have f1 : w.frozen? ⟨b, 1, none⟩ = false := by simp [World.frozen?, hw]
  have f2 : w.frozen? ⟨b, 2, none⟩ = false := by simp [World.frozen?, hw]
  have c1 : w.cell? ⟨b, 1, none⟩ = some pv := cell_at hw 1
  have c2 : w.cell? ⟨b, 2, none⟩ = some bv := cell_at hw 2
  have H := _root_.Go.Lib.hid hw
  clear hw
  go_enter Try.func27, Try.ntmps27
  go_wp2
  go_end0
  exact ⟨rfl, rfl⟩

theorem out_nil (w : World) : Calls Try.prog 17 #[.pointer none] w fun e w' => e = .returned (.string ⟨#[]⟩) ∧ w = w' := by
  go_enter Try.func17, Try.ntmps17
  go_wp2
  go_ret
  exact ⟨rfl, rfl⟩

/-- Out. -/
theorem out_calls {B b : Nat} {S : Ua} {w : World} (h : IsU B b S w) :
    Calls Try.prog 17 #[.pointer (some ⟨b, 0, none⟩)] w fun e w' => e = .returned (.string ⟨S.o.toArray⟩) ∧ IsU B b { S with o := [] } w' ∧ Left B b w w' := by
  obtain ⟨cv, pv, bv, hU⟩ := h
  have HU := _root_.Go.Lib.hid hU
  clear hU
  go_enter Try.func17, Try.ntmps17
  go_wp2_with (go_at_call 26; refine (string_calls HU.out).mono ?_)
  rintro e w1 ⟨rfl, hs⟩
  have HS := _root_.Go.Lib.hid hs
  clear hs
  go_wp2_with (go_at_call 27; refine (reset_calls b _ _ _ _ _ _ HS.out.1).mono ?_; rintro e w2 ⟨rfl, rfl⟩)
  go_ret
  obtain ⟨h1, h2, h3⟩ := HS.out
  refine ⟨rfl, ⟨cv, .pointer none, .slice none 0 0, ⟨HU.out.at_b, ?_, (h2.setCell HU.out.came_far).setCell HU.out.came_far, ⟨rfl, .inl ⟨rfl, rfl⟩⟩, .inl ⟨rfl, rfl⟩, fun g _ h => (by cases h), fun _ => rfl⟩⟩, (h3.setCell HU.out.at_b _).setCell HU.out.at_b _⟩
  have h4 := heap_setCell_same w1 b 1 _ 55 (.pointer none) h1
  rw [heap_setCell_same _ b 2 _ 55 _ h4]
  rfl
end Go.Proofs.Ytjaldngafappdaa
