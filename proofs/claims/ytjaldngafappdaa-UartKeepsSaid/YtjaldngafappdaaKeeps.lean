/-
  Registers that are kept are as they were set, each for itself.
-/
import Derived.Test.YtjaldngafappdaaPlain
import Derived.Deep.LoopGhost
set_option linter.unusedVariables false
set_option linter.unusedSimpArgs false
namespace Go.Proofs.Ytjaldngafappdaa
open Go.RowKit Go.Lib

def kR (c0 c1 c2 c3 : UInt8) : Nat → (Nat → Int)
  | 0 => fun _ => 0
  | 1 => upd (fun _ => 0) 1 c0.toNat
  | 2 => upd (upd (fun _ => 0) 1 c0.toNat) 4 c1.toNat
  | 3 => upd (upd (upd (fun _ => 0) 1 c0.toNat) 4 c1.toNat) 7 c2.toNat
  | _ => upd (upd (upd (upd (fun _ => 0) 1 c0.toNat) 4 c1.toNat) 7 c2.toNat) 3 c3.toNat
def kS (c0 c1 c2 c3 : UInt8) (j : Nat) : Ua := { c := [], o := [], r := kR c0 c1 c2 c3 j, ov := false }
theorem k_step0 (c0 c1 c2 c3 : UInt8) : sS (kS c0 c1 c2 c3 0) 4 c0 = kS c0 c1 c2 c3 1 := by kernel_rfl
theorem k_step1 (c0 c1 c2 c3 : UInt8) : sS (kS c0 c1 c2 c3 1) 16 c1 = kS c0 c1 c2 c3 2 := by kernel_rfl
theorem k_step2 (c0 c1 c2 c3 : UInt8) : sS (kS c0 c1 c2 c3 2) 28 c2 = kS c0 c1 c2 c3 3 := by kernel_rfl
theorem k_step3 (c0 c1 c2 c3 : UInt8) : sS (kS c0 c1 c2 c3 3) 12 c3 = kS c0 c1 c2 c3 4 := by kernel_rfl
theorem k_get0 (c0 c1 c2 c3 : UInt8) (p : Bool) (h : (bits .and .u32 (c3.toNat : Int) 128 != 0) = p) : gV (kS c0 c1 c2 c3 4) 4 = if p then 0 else (c0.toNat : Int) := by
  have ho : otB (kS c0 c1 c2 c3 4) = p := h
  unfold gV
  rw [if_neg (by decide), if_neg (by decide), if_pos rfl, ho]
  rfl
abbrev kArr (x0 x1 x2 x3 : Int) : Obj := .cells #[.int .u32 x0, .int .u32 x1, .int .u32 x2, .int .u32 x3] 46
abbrev kOff : Obj := .cells #[.int .u32 4, .int .u32 16, .int .u32 28, .int .u32 12] 26

set_option maxRecDepth 100000 in
set_option maxHeartbeats 2000000 in
theorem keeps_raw (x0 x1 x2 x3 : Int) (c0 c1 c2 c3 : UInt8) (p : Bool) (w : World) (e0 : bits .and .u32 x0 255 = (c0.toNat : Int)) (e1 : bits .and .u32 x1 255 = (c1.toNat : Int)) (e2 : bits .and .u32 x2 255 = (c2.toNat : Int)) (e3 : bits .and .u32 x3 255 = (c3.toNat : Int))
    (hp : (bits .and .u32 (c3.toNat : Int) 128 != 0) = p) (hp3 : (bits .and .u32 x3 128 != 0) = p) :
    Calls Try.prog 7 #[.agg #[.int .u32 x0, .int .u32 x1, .int .u32 x2, .int .u32 x3]] w fun e w' => e = .returned (.bool true) ∧ Below w.heap.size w w' := by
  have HP := _root_.Go.Lib.hid hp
  clear hp
  go_enter Try.func7, Try.ntmps7
  go_wp2_with fail
  refine (alive_calls _).mono ?_
  rintro e w1 ⟨rfl, h1⟩
  have H1 := _root_.Go.Lib.hid h1
  clear h1
  have kb : w1.heap[w.heap.size]? = some (kArr x0 x1 x2 x3) := by rw [H1.out.block w.heap.size (by simp)]; exact heap_alloc_new w _
  have KB := _root_.Go.Lib.hid kb
  have SZ := _root_.Go.Lib.hid (show w.heap.size < w1.heap.size by have := H1.out.size; simp at this; omega)
  clear kb
  go_wp2_with fail
  refine (new_u (B := w.heap.size) (W := w) [(w.heap.size, kArr x0 x1 x2 x3)] (((Below.refl _ _).alloc (Nat.le_refl _) _).trans (H1.out.mono (by simp))) (Nat.le_of_lt SZ.out) (fun p hp => by obtain rfl := List.mem_singleton.1 hp; exact ⟨KB.out, fun _ _ h => by cases h⟩)).mono ?_
  rintro e w2 ⟨rfl, h2⟩
  have h2' := (h2.alloc kOff).push (heap_alloc_new w2 kOff) (show w2.heap.size ≠ w1.heap.size from fun e => by obtain ⟨_, _, _, hU⟩ := h2.u; have := lt_of_heap hU.row; omega) (fun _ _ h => by cases h)
  have H2 := _root_.Go.Lib.hid h2'
  clear h2 h2' H1
  go_wp2_with fail
  go_loopg [20] 4 (fun k i wr => ∃ j : Nat, j + k = 4 ∧ i = .int .i64 (j : Int) ∧ UW w.heap.size w1.heap.size (kS c0 c1 c2 c3 j) w [(w2.heap.size, kOff), (w.heap.size, kArr x0 x1 x2 x3)] wr)
  case atStart => exact ⟨0, by omega, rfl, H2.out⟩
  case round =>
    obtain ⟨j, hj, rfl, hu⟩ := hrel
    have ca : ∀ i, wr.cell? ⟨w2.heap.size, i, none⟩ = _ := fun i => cell_at (hu.kept _ (List.mem_cons_self)).1 i
    have cb : ∀ i, wr.cell? ⟨w.heap.size, i, none⟩ = _ := fun i => cell_at (hu.kept (w.heap.size, kArr x0 x1 x2 x3) (by simp)).1 i
    have HU := _root_.Go.Lib.hid hu
    have CA := _root_.Go.Lib.hid ca
    have CB := _root_.Go.Lib.hid cb
    clear hu H2 ca cb
    match j, hj with
    | 0, hj =>
      have g1 : wr.cell? ⟨w2.heap.size, 0, none⟩ = some (.int .u32 4) := CA.out 0
      have g2 : wr.cell? ⟨w.heap.size, 0, none⟩ = some (.int .u32 x0) := CB.out 0
      clear CA CB
      go_wp2_with fail
      refine (set_u HU.out 4 x0 c0 true _ (by decide) e0 (by show (0 : Nat) ≤ 1000; decide) (by kernel_rfl) (k_step0 c0 c1 c2 c3)).mono ?_
      rintro e w3 ⟨rfl, h3⟩
      have H3 := _root_.Go.Lib.hid h3
      clear h3 HU g1 g2
      go_wp2_with fail
      go_roundg 3
      case measure => omega
      case rel => exact ⟨1, by omega, rfl, H3.out⟩
    | 1, hj =>
      have g1 : wr.cell? ⟨w2.heap.size, 1, none⟩ = some (.int .u32 16) := CA.out 1
      have g2 : wr.cell? ⟨w.heap.size, 1, none⟩ = some (.int .u32 x1) := CB.out 1
      clear CA CB
      go_wp2_with fail
      refine (set_u HU.out 16 x1 c1 true _ (by decide) e1 (by show (0 : Nat) ≤ 1000; decide) (by kernel_rfl) (k_step1 c0 c1 c2 c3)).mono ?_
      rintro e w3 ⟨rfl, h3⟩
      have H3 := _root_.Go.Lib.hid h3
      clear h3 HU g1 g2
      go_wp2_with fail
      go_roundg 2
      case measure => omega
      case rel => exact ⟨2, by omega, rfl, H3.out⟩
    | 2, hj =>
      have g1 : wr.cell? ⟨w2.heap.size, 2, none⟩ = some (.int .u32 28) := CA.out 2
      have g2 : wr.cell? ⟨w.heap.size, 2, none⟩ = some (.int .u32 x2) := CB.out 2
      clear CA CB
      go_wp2_with fail
      refine (set_u HU.out 28 x2 c2 true _ (by decide) e2 (by show (0 : Nat) ≤ 1000; decide) (by kernel_rfl) (k_step2 c0 c1 c2 c3)).mono ?_
      rintro e w3 ⟨rfl, h3⟩
      have H3 := _root_.Go.Lib.hid h3
      clear h3 HU g1 g2
      go_wp2_with fail
      go_roundg 1
      case measure => omega
      case rel => exact ⟨3, by omega, rfl, H3.out⟩
    | 3, hj =>
      have g1 : wr.cell? ⟨w2.heap.size, 3, none⟩ = some (.int .u32 12) := CA.out 3
      have g2 : wr.cell? ⟨w.heap.size, 3, none⟩ = some (.int .u32 x3) := CB.out 3
      clear CA CB
      go_wp2_with fail
      refine (set_u HU.out 12 x3 c3 true _ (by decide) e3 (by show (0 : Nat) ≤ 1000; decide) (by kernel_rfl) (k_step3 c0 c1 c2 c3)).mono ?_
      rintro e w3 ⟨rfl, h3⟩
      have H3 := _root_.Go.Lib.hid h3
      clear h3 HU g1 g2
      go_wp2_with fail
      go_roundg 0
      case measure => omega
      case rel => exact ⟨4, by omega, rfl, H3.out⟩
    | n + 5, hj => omega
    | 4, hj =>
      clear CA CB
      go_wp2_with fail
      go_loopg [35] 4 (fun k i wr => ∃ j : Nat, j + k = 4 ∧ i = .int .i64 (j : Int) ∧ UW w.heap.size w1.heap.size (kS c0 c1 c2 c3 4) w [(w2.heap.size, kOff), (w.heap.size, kArr x0 x1 x2 x3)] wr)
      case atStart => exact ⟨0, by omega, rfl, HU.out⟩
      case round =>
        obtain ⟨j, hj, rfl, hu⟩ := hrel
        have ca : ∀ i, wr.cell? ⟨w2.heap.size, i, none⟩ = _ := fun i => cell_at (hu.kept _ (List.mem_cons_self)).1 i
        have HU := _root_.Go.Lib.hid hu
        have CA := _root_.Go.Lib.hid ca
        clear hu ca
        match j, hj with
        | 0, hj =>
          cases p with
          | true =>
            have g1 : wr.cell? ⟨w2.heap.size, 0, none⟩ = some (.int .u32 4) := CA.out 0
            clear CA
            go_wp2_with fail
            refine (get_u HU.out 4 0 true (kS c0 c1 c2 c3 4) (by decide) ((k_get0 c0 c1 c2 c3 true HP.out).trans (by simp)) (by kernel_rfl) (by kernel_rfl)).mono ?_
            rintro e w4 ⟨rfl, h4⟩
            have g2 : w4.cell? ⟨w.heap.size, 0, none⟩ = some (.int .u32 x0) := cell_at (h4.kept (w.heap.size, kArr x0 x1 x2 x3) (by simp)).1 0
            have g3 : w4.cell? ⟨w.heap.size, 3, none⟩ = some (.int .u32 x3) := cell_at (h4.kept (w.heap.size, kArr x0 x1 x2 x3) (by simp)).1 3
            have H4 := _root_.Go.Lib.hid h4
            clear h4 HU g1
            go_wp2_with fail
            go_roundg 3
            case measure => omega
            case rel => exact ⟨1, by omega, rfl, H4.out⟩
          | false =>
            have g1 : wr.cell? ⟨w2.heap.size, 0, none⟩ = some (.int .u32 4) := CA.out 0
            clear CA
            go_wp2_with fail
            refine (get_u HU.out 4 c0.toNat true (kS c0 c1 c2 c3 4) (by decide) ((k_get0 c0 c1 c2 c3 false HP.out).trans (by simp)) (by kernel_rfl) (by kernel_rfl)).mono ?_
            rintro e w4 ⟨rfl, h4⟩
            have g2 : w4.cell? ⟨w.heap.size, 0, none⟩ = some (.int .u32 x0) := cell_at (h4.kept (w.heap.size, kArr x0 x1 x2 x3) (by simp)).1 0
            have g3 : w4.cell? ⟨w.heap.size, 3, none⟩ = some (.int .u32 x3) := cell_at (h4.kept (w.heap.size, kArr x0 x1 x2 x3) (by simp)).1 3
            have H4 := _root_.Go.Lib.hid h4
            clear h4 HU g1
            go_wp2_with fail
            go_roundg 3
            case measure => omega
            case rel => exact ⟨1, by omega, rfl, H4.out⟩
        | 1, hj =>
          have g1 : wr.cell? ⟨w2.heap.size, 1, none⟩ = some (.int .u32 16) := CA.out 1
          clear CA
          go_wp2_with fail
          refine (get_u HU.out 16 c1.toNat true (kS c0 c1 c2 c3 4) (by decide) (by kernel_rfl) (by kernel_rfl) (by kernel_rfl)).mono ?_
          rintro e w4 ⟨rfl, h4⟩
          have g2 : w4.cell? ⟨w.heap.size, 1, none⟩ = some (.int .u32 x1) := cell_at (h4.kept (w.heap.size, kArr x0 x1 x2 x3) (by simp)).1 1
          have g3 : w4.cell? ⟨w.heap.size, 3, none⟩ = some (.int .u32 x3) := cell_at (h4.kept (w.heap.size, kArr x0 x1 x2 x3) (by simp)).1 3
          have H4 := _root_.Go.Lib.hid h4
          clear h4 HU g1
          go_wp2_with fail
          go_roundg 2
          case measure => omega
          case rel => exact ⟨2, by omega, rfl, H4.out⟩
        | 2, hj =>
          have g1 : wr.cell? ⟨w2.heap.size, 2, none⟩ = some (.int .u32 28) := CA.out 2
          clear CA
          go_wp2_with fail
          refine (get_u HU.out 28 c2.toNat true (kS c0 c1 c2 c3 4) (by decide) (by kernel_rfl) (by kernel_rfl) (by kernel_rfl)).mono ?_
          rintro e w4 ⟨rfl, h4⟩
          have g2 : w4.cell? ⟨w.heap.size, 2, none⟩ = some (.int .u32 x2) := cell_at (h4.kept (w.heap.size, kArr x0 x1 x2 x3) (by simp)).1 2
          have g3 : w4.cell? ⟨w.heap.size, 3, none⟩ = some (.int .u32 x3) := cell_at (h4.kept (w.heap.size, kArr x0 x1 x2 x3) (by simp)).1 3
          have H4 := _root_.Go.Lib.hid h4
          clear h4 HU g1
          go_wp2_with fail
          go_roundg 1
          case measure => omega
          case rel => exact ⟨3, by omega, rfl, H4.out⟩
        | 3, hj =>
          have g1 : wr.cell? ⟨w2.heap.size, 3, none⟩ = some (.int .u32 12) := CA.out 3
          clear CA
          go_wp2_with fail
          refine (get_u HU.out 12 c3.toNat true (kS c0 c1 c2 c3 4) (by decide) (by kernel_rfl) (by kernel_rfl) (by kernel_rfl)).mono ?_
          rintro e w4 ⟨rfl, h4⟩
          have g2 : w4.cell? ⟨w.heap.size, 3, none⟩ = some (.int .u32 x3) := cell_at (h4.kept (w.heap.size, kArr x0 x1 x2 x3) (by simp)).1 3
          have g3 : w4.cell? ⟨w.heap.size, 3, none⟩ = some (.int .u32 x3) := cell_at (h4.kept (w.heap.size, kArr x0 x1 x2 x3) (by simp)).1 3
          have H4 := _root_.Go.Lib.hid h4
          clear h4 HU g1
          go_wp2_with fail
          go_roundg 0
          case measure => omega
          case rel => exact ⟨4, by omega, rfl, H4.out⟩
        | n + 5, hj => omega
        | 4, hj =>
          clear CA
          go_wp2_with fail
          go_ret
          exact ⟨rfl, HU.out.bel⟩

theorem keeps_calls (x0 x1 x2 x3 : Int) (w : World) (h0 : 0 ≤ x0 ∧ x0 < 4294967296) (h1 : 0 ≤ x1 ∧ x1 < 4294967296) (h2 : 0 ≤ x2 ∧ x2 < 4294967296) (h3 : 0 ≤ x3 ∧ x3 < 4294967296) :
    Calls Try.prog 7 #[.agg #[.int .u32 x0, .int .u32 x1, .int .u32 x2, .int .u32 x3]] w fun e w' => e = .returned (.bool true) ∧ Below w.heap.size w w' :=
  keeps_raw x0 x1 x2 x3 (low x0) (low x1) (low x2) (low x3) _ w (low_and x0 h0) (low_and x1 h1) (low_and x2 h2) (low_and x3 h3) (by rw [low_128 x3 h3]) rfl
end Go.Proofs.Ytjaldngafappdaa
