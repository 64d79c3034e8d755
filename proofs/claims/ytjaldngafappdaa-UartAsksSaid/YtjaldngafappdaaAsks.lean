/-
  It asks just while a byte waits, and it was told to; what is told to stop asks no more.
-/
import Derived.Test.YtjaldngafappdaaPlain
import Derived.Deep.LoopGhost
set_option linter.unusedVariables false
set_option linter.unusedSimpArgs false
namespace Go.Proofs.Ytjaldngafappdaa
open Go.RowKit Go.Lib

def r0 : Nat → Int := fun _ => 0
def rA (p : Bool) (cl ce : UInt8) : Nat → Int := if p then upd (upd r0 3 cl.toNat) 1 ce.toNat else upd r0 3 cl.toNat
def stA (r : Nat → Int) (j : Nat) : Ua := { c := List.replicate (min j 16) 120, o := [], r := r, ov := decide (16 < j) }
def stB (r : Nat → Int) (l : List UInt8) (ov : Bool) : Ua := { c := l, o := [], r := r, ov := ov }

theorem feed_A (r : Nat → Int) (j : Nat) : fS (stA r j) [120] = stA r (j + 1) := by
  have h1 : (stA r j).c ++ [(120 : UInt8)].take (16 - (stA r j).c.length) = List.replicate (min (j + 1) 16) 120 := by
    simp only [stA, List.length_replicate]
    by_cases h : j < 16
    · rw [show min j 16 = j by omega, show min (j + 1) 16 = j + 1 by omega, List.take_of_length_le (by simp; omega), List.replicate_succ']
    · rw [show min j 16 = 16 by omega, show min (j + 1) 16 = 16 by omega]
      rfl
  have h2 : ((stA r j).ov || decide (16 - (stA r j).c.length < [(120 : UInt8)].length)) = decide (16 < j + 1) := by
    simp only [stA, List.length_replicate, List.length_singleton]
    rw [Bool.eq_iff_iff]
    simp
    omega
  unfold fS
  rw [h1, h2]
  rfl
theorem first_A (cl : UInt8) : sS S0 12 cl = stB (upd r0 3 cl.toNat) [] false := by kernel_rfl
theorem second_A (p : Bool) (cl ce : UInt8) (h : (bits .and .u32 (cl.toNat : Int) 128 == 0) = p) : sS (stB (upd r0 3 cl.toNat) [] false) 4 ce = stA (rA p cl ce) 0 := by
  have ho : otB (stB (upd r0 3 cl.toNat) [] false) = !p := by
    show (bits .and .u32 (cl.toNat : Int) 128 != 0) = !p
    rw [← h]; rfl
  unfold sS
  rw [if_neg (by decide), if_neg (by decide), if_pos rfl, ho]
  cases p <;> rfl
theorem up_A (p q : Bool) (cl ce : UInt8) (j : Nat) (hp : (bits .and .u32 (ce.toNat : Int) 1 == 1) = q) (h1 : bits .and .u32 (ce.toNat : Int) 1 = 0 ∨ bits .and .u32 (ce.toNat : Int) 1 = 1) :
    upB (stA (rA p cl ce) j) = (p && q && decide (0 < j)) := by
  have e : decide (0 < (stA (rA p cl ce) j).c.length) = decide (0 < j) := by
    simp only [stA, List.length_replicate]
    rw [Bool.eq_iff_iff]
    simp
    omega
  unfold upB
  rw [e]
  cases p with
  | false =>
    have : (bits .and .u32 ((stA (rA false cl ce) j).r 1) 1 != 0) = false := by
      show (bits .and .u32 0 1 != 0) = false
      kernel_rfl
    rw [this]
    rfl
  | true =>
    have : (bits .and .u32 ((stA (rA true cl ce) j).r 1) 1 != 0) = q := by
      show (bits .and .u32 (ce.toNat : Int) 1 != 0) = q
      rw [← hp]
      rcases h1 with h | h <;> rw [h] <;> rfl
    rw [this]
    rfl
theorem third_A (r : Nat → Int) (j : Nat) : sS (stA r j) 12 0 = stB (upd r 3 0) (List.replicate (min j 16) 120) (decide (16 < j)) := by kernel_rfl
theorem get_B (r : Nat → Int) (ov : Bool) (j m : Nat) (h : j < m) : gS (stB (upd r 3 0) (List.replicate (m - j) 120) ov) 0 = stB (upd r 3 0) (List.replicate (m - (j + 1)) 120) ov := by
  have : otB (stB (upd r 3 0) (List.replicate (m - j) 120) ov) = false := by kernel_rfl
  unfold gS
  rw [if_pos rfl, this, show m - j = (m - (j + 1)) + 1 by omega]
  rfl

set_option maxRecDepth 100000 in
set_option maxHeartbeats 1000000 in
theorem asks_t_t_zero (n en lcr : Int) (m : Nat) (w : World) (cl ce : UInt8) (hn : 0 ≤ n ∧ n < 256) (hm : n.tmod 20 = (m : Int)) (hm20 : m < 20) (hmc : m = 0) (hcl : bits .and .u32 lcr 255 = (cl.toNat : Int)) (hce : bits .and .u32 en 255 = (ce.toNat : Int))
    (hP : (bits .and .u32 lcr 128 == 0) = true) (hQ : (bits .and .u32 en 1 == 1) = true) (hp : (bits .and .u32 (cl.toNat : Int) 128 == 0) = true) (hq : (bits .and .u32 (ce.toNat : Int) 1 == 1) = true) (h1 : bits .and .u32 (ce.toNat : Int) 1 = 0 ∨ bits .and .u32 (ce.toNat : Int) 1 = 1) :
    Calls Try.prog 5 #[.int .u8 n, .int .u32 en, .int .u32 lcr] w fun e w' => e = .returned (.bool true) ∧ Below w.heap.size w w' := by
  have hup := up_A true true cl ce m hq h1
  obtain ⟨n1, n2⟩ := hn
  have HP := _root_.Go.Lib.hid hp
  have CL := _root_.Go.Lib.hid hcl
  have CE := _root_.Go.Lib.hid hce
  have UP := _root_.Go.Lib.hid hup
  clear hp hq h1 hcl hce hup
  generalize hr : rA true cl ce = r at UP
  have HR := _root_.Go.Lib.hid hr
  clear hr
  subst hmc
  go_enter Try.func5, Try.ntmps5
  go_wp2_with fail
  refine (alive_calls _).mono ?_
  rintro e w1 ⟨rfl, h1⟩
  have H1 := _root_.Go.Lib.hid h1
  clear h1
  go_wp2_with fail
  refine (new_u (B := w.heap.size) (W := w) [] H1.out H1.out.size (fun p hp => by cases hp)).mono ?_
  rintro e w2 ⟨rfl, h2⟩
  have H2 := _root_.Go.Lib.hid h2
  clear h2 H1
  go_wp2_with fail
  refine (set_u H2.out 12 lcr cl true _ (by decide) CL.out (by decide) (by kernel_rfl) (first_A cl)).mono ?_
  rintro e w3 ⟨rfl, h3⟩
  have H3 := _root_.Go.Lib.hid h3
  clear h3 H2
  go_wp2_with fail
  refine (set_u H3.out 4 en ce true _ (by decide) CE.out (by show (0 : Nat) ≤ 1000; decide) (by kernel_rfl) ((second_A true cl ce HP.out).trans (by rw [HR.out]))).mono ?_
  rintro e w4 ⟨rfl, h4⟩
  have H4 := _root_.Go.Lib.hid h4
  clear h4 H3
  go_wp2_with fail
  go_loopg [33] 0 (fun k i wr => i = .int .i64 0 ∧ UW w.heap.size w1.heap.size (stA r 0) w [] wr)
  case atStart => exact ⟨rfl, H4.out⟩
  case round =>
    obtain ⟨rfl, hu⟩ := hrel
    have HU := _root_.Go.Lib.hid hu
    clear hu H4
    go_wp2_with fail
    refine (up_u HU.out false (UP.out.trans (by simp))).mono ?_
    rintro e w' ⟨rfl, rfl⟩
    go_wp2_with fail
    refine (set_u HU.out 12 0 0 true _ (by decide) (by kernel_rfl) (by show (0 : Nat) ≤ 1000; decide) (by kernel_rfl) (third_A r 0)).mono ?_
    rintro e w6 ⟨rfl, h6⟩
    have H6 := _root_.Go.Lib.hid h6
    clear h6
    have H6' := _root_.Go.Lib.hid (show UW w.heap.size w1.heap.size (stB (upd r 3 0) (List.replicate (0 - 0) 120) (decide (16 < 0))) w [] w6 from by have := H6.out; rwa [show min 0 16 = 0 - 0 by omega] at this)
    clear H6
    generalize hov : decide (16 < 0) = ov at H6'
    clear hov
    go_wp2_with fail
    go_loopg [53] 0 (fun k i wr => ∃ j2 : Nat, j2 + k = 0 ∧ i = .int .i64 (j2 : Int) ∧ UW w.heap.size w1.heap.size (stB (upd r 3 0) (List.replicate (0 - j2) 120) ov) w [] wr)
    case atStart => exact ⟨0, by omega, rfl, H6'.out⟩
    case round =>
      obtain ⟨j2, hj2, rfl, hu2⟩ := hrel
      have HV := _root_.Go.Lib.hid hu2
      clear hu2 H6'
      by_cases hj2m : j2 < 0
      · have hlt2 : ((j2 : Int) < (0 : Int)) = True := by simp; omega
        go_wp2_with fail
        refine (get_u HV.out 0 _ true _ (by decide) rfl (by kernel_rfl) (get_B r ov j2 0 hj2m)).mono ?_
        rintro e w7 ⟨rfl, h7⟩
        have H7 := _root_.Go.Lib.hid h7
        clear h7 HV
        go_wp2_with fail
        go_roundg (0 - (j2 + 1))
        case measure => omega
        case rel => exact ⟨j2 + 1, by omega, by first | rfl | go_num, H7.out⟩
      · have hlt2 : ((j2 : Int) < (0 : Int)) = False := by simp <;> omega
        have HW := _root_.Go.Lib.hid (show UW w.heap.size w1.heap.size (stB (upd r 3 0) [] ov) w [] wr from by have := HV.out; rwa [show 0 - j2 = 0 by omega] at this)
        clear HV
        go_wp2_with fail
        refine (up_u HW.out false (by show (_ && decide (0 < 0)) = false; simp)).mono ?_
        rintro e w' ⟨rfl, rfl⟩
        go_wp2_with fail
        refine (feed_u HW.out ⟨#[121]⟩ (stB (upd r 3 0) [121] ov) (by show (0 : Nat) ≤ 16; decide) (by decide) (by show stB (upd r 3 0) [121] (ov || decide (16 - 0 < 1)) = _; simp)).mono ?_
        rintro e w8 ⟨rfl, h8⟩
        have H8 := _root_.Go.Lib.hid h8
        clear h8
        go_wp2_with fail
        refine (set_u H8.out 4 1 1 true (stB (upd (upd r 3 0) 1 1) [121] ov) (by decide) (by kernel_rfl) (by show (0 : Nat) ≤ 1000; decide) (by kernel_rfl) (by kernel_rfl)).mono ?_
        rintro e w9 ⟨rfl, h9⟩
        have H9 := _root_.Go.Lib.hid h9
        clear h9 H8
        go_wp2_with fail
        refine (up_u H9.out true (by kernel_rfl)).mono ?_
        rintro e w' ⟨rfl, rfl⟩
        go_wp2_with fail
        refine (set_u H9.out 8 2 2 true (stB (upd (upd r 3 0) 1 1) [] ov) (by decide) (by kernel_rfl) (by show (0 : Nat) ≤ 1000; decide) (by kernel_rfl) (by kernel_rfl)).mono ?_
        rintro e w10 ⟨rfl, h10⟩
        have H10 := _root_.Go.Lib.hid h10
        clear h10 H9
        go_wp2_with fail
        refine (up_u H10.out false (by kernel_rfl)).mono ?_
        rintro e w' ⟨rfl, rfl⟩
        go_wp2_with fail
        go_ret
        exact ⟨rfl, H10.out.bel⟩
set_option maxRecDepth 100000 in
set_option maxHeartbeats 1000000 in
theorem asks_t_t_some (n en lcr : Int) (m : Nat) (w : World) (cl ce : UInt8) (hn : 0 ≤ n ∧ n < 256) (hm : n.tmod 20 = (m : Int)) (hm20 : m < 20) (hmc : 0 < m ∧ m ≤ 16) (hcl : bits .and .u32 lcr 255 = (cl.toNat : Int)) (hce : bits .and .u32 en 255 = (ce.toNat : Int))
    (hP : (bits .and .u32 lcr 128 == 0) = true) (hQ : (bits .and .u32 en 1 == 1) = true) (hp : (bits .and .u32 (cl.toNat : Int) 128 == 0) = true) (hq : (bits .and .u32 (ce.toNat : Int) 1 == 1) = true) (h1 : bits .and .u32 (ce.toNat : Int) 1 = 0 ∨ bits .and .u32 (ce.toNat : Int) 1 = 1) :
    Calls Try.prog 5 #[.int .u8 n, .int .u32 en, .int .u32 lcr] w fun e w' => e = .returned (.bool true) ∧ Below w.heap.size w w' := by
  have hup := up_A true true cl ce m hq h1
  obtain ⟨n1, n2⟩ := hn
  have HP := _root_.Go.Lib.hid hp
  have CL := _root_.Go.Lib.hid hcl
  have CE := _root_.Go.Lib.hid hce
  have UP := _root_.Go.Lib.hid hup
  clear hp hq h1 hcl hce hup
  generalize hr : rA true cl ce = r at UP
  have HR := _root_.Go.Lib.hid hr
  clear hr
  obtain ⟨hm1, hm2⟩ := hmc
  have hz : ((m : Int) > 0) = True := by simp; omega
  have hmin : ((m : Int) ≤ 16) = True := by simp; omega
  go_enter Try.func5, Try.ntmps5
  go_wp2_with fail
  refine (alive_calls _).mono ?_
  rintro e w1 ⟨rfl, h1⟩
  have H1 := _root_.Go.Lib.hid h1
  clear h1
  go_wp2_with fail
  refine (new_u (B := w.heap.size) (W := w) [] H1.out H1.out.size (fun p hp => by cases hp)).mono ?_
  rintro e w2 ⟨rfl, h2⟩
  have H2 := _root_.Go.Lib.hid h2
  clear h2 H1
  go_wp2_with fail
  refine (set_u H2.out 12 lcr cl true _ (by decide) CL.out (by decide) (by kernel_rfl) (first_A cl)).mono ?_
  rintro e w3 ⟨rfl, h3⟩
  have H3 := _root_.Go.Lib.hid h3
  clear h3 H2
  go_wp2_with fail
  refine (set_u H3.out 4 en ce true _ (by decide) CE.out (by show (0 : Nat) ≤ 1000; decide) (by kernel_rfl) ((second_A true cl ce HP.out).trans (by rw [HR.out]))).mono ?_
  rintro e w4 ⟨rfl, h4⟩
  have H4 := _root_.Go.Lib.hid h4
  clear h4 H3
  go_wp2_with fail
  go_loopg [33] m (fun k i wr => ∃ j : Nat, j + k = m ∧ i = .int .i64 (j : Int) ∧ UW w.heap.size w1.heap.size (stA r j) w [] wr)
  case atStart => exact ⟨0, by omega, rfl, H4.out⟩
  case round =>
    obtain ⟨j, hj, rfl, hu⟩ := hrel
    have HU := _root_.Go.Lib.hid hu
    clear hu H4
    by_cases hjm : j < m
    · have hlt : ((j : Int) < m) = True := by simp; omega
      go_wp2_with fail
      refine (feed_u HU.out ⟨#[120]⟩ (stA r (j + 1)) (by simp [stA]; omega) (by decide) (feed_A r j)).mono ?_
      rintro e w5 ⟨rfl, h5⟩
      have H5 := _root_.Go.Lib.hid h5
      clear h5 HU
      go_wp2_with fail
      go_roundg (m - (j + 1))
      case measure => omega
      case rel => exact ⟨j + 1, by omega, by first | rfl | go_num, H5.out⟩
    · have hlt : ((j : Int) < m) = False := by simp; omega
      obtain rfl : j = m := by omega
      go_wp2_with fail
      refine (up_u HU.out true (UP.out.trans (by simp; try omega))).mono ?_
      rintro e w' ⟨rfl, rfl⟩
      go_wp2_with fail
      refine (set_u HU.out 12 0 0 true _ (by decide) (by kernel_rfl) (by show (0 : Nat) ≤ 1000; decide) (by kernel_rfl) (third_A r j)).mono ?_
      rintro e w6 ⟨rfl, h6⟩
      have H6 := _root_.Go.Lib.hid h6
      clear h6
      have H6' := _root_.Go.Lib.hid (show UW w.heap.size w1.heap.size (stB (upd r 3 0) (List.replicate (j - 0) 120) (decide (16 < j))) w [] w6 from by have := H6.out; rwa [show min j 16 = j - 0 by omega] at this)
      clear H6
      generalize hov : decide (16 < j) = ov at H6'
      clear hov
      go_wp2_with fail
      go_loopg [53] j (fun k i wr => ∃ j2 : Nat, j2 + k = j ∧ i = .int .i64 (j2 : Int) ∧ UW w.heap.size w1.heap.size (stB (upd r 3 0) (List.replicate (j - j2) 120) ov) w [] wr)
      case atStart => exact ⟨0, by omega, rfl, H6'.out⟩
      case round =>
        obtain ⟨j2, hj2, rfl, hu2⟩ := hrel
        have HV := _root_.Go.Lib.hid hu2
        clear hu2 H6'
        by_cases hj2m : j2 < j
        · have hlt2 : ((j2 : Int) < (j : Int)) = True := by simp; omega
          go_wp2_with fail
          refine (get_u HV.out 0 _ true _ (by decide) rfl (by kernel_rfl) (get_B r ov j2 j hj2m)).mono ?_
          rintro e w7 ⟨rfl, h7⟩
          have H7 := _root_.Go.Lib.hid h7
          clear h7 HV
          go_wp2_with fail
          go_roundg (j - (j2 + 1))
          case measure => omega
          case rel => exact ⟨j2 + 1, by omega, by first | rfl | go_num, H7.out⟩
        · have hlt2 : ((j2 : Int) < (j : Int)) = False := by simp <;> omega
          have HW := _root_.Go.Lib.hid (show UW w.heap.size w1.heap.size (stB (upd r 3 0) [] ov) w [] wr from by have := HV.out; rwa [show j - j2 = 0 by omega] at this)
          clear HV
          go_wp2_with fail
          refine (up_u HW.out false (by show (_ && decide (0 < 0)) = false; simp)).mono ?_
          rintro e w' ⟨rfl, rfl⟩
          go_wp2_with fail
          refine (feed_u HW.out ⟨#[121]⟩ (stB (upd r 3 0) [121] ov) (by show (0 : Nat) ≤ 16; decide) (by decide) (by show stB (upd r 3 0) [121] (ov || decide (16 - 0 < 1)) = _; simp)).mono ?_
          rintro e w8 ⟨rfl, h8⟩
          have H8 := _root_.Go.Lib.hid h8
          clear h8
          go_wp2_with fail
          refine (set_u H8.out 4 1 1 true (stB (upd (upd r 3 0) 1 1) [121] ov) (by decide) (by kernel_rfl) (by show (0 : Nat) ≤ 1000; decide) (by kernel_rfl) (by kernel_rfl)).mono ?_
          rintro e w9 ⟨rfl, h9⟩
          have H9 := _root_.Go.Lib.hid h9
          clear h9 H8
          go_wp2_with fail
          refine (up_u H9.out true (by kernel_rfl)).mono ?_
          rintro e w' ⟨rfl, rfl⟩
          go_wp2_with fail
          refine (set_u H9.out 8 2 2 true (stB (upd (upd r 3 0) 1 1) [] ov) (by decide) (by kernel_rfl) (by show (0 : Nat) ≤ 1000; decide) (by kernel_rfl) (by kernel_rfl)).mono ?_
          rintro e w10 ⟨rfl, h10⟩
          have H10 := _root_.Go.Lib.hid h10
          clear h10 H9
          go_wp2_with fail
          refine (up_u H10.out false (by kernel_rfl)).mono ?_
          rintro e w' ⟨rfl, rfl⟩
          go_wp2_with fail
          go_ret
          exact ⟨rfl, H10.out.bel⟩
set_option maxRecDepth 100000 in
set_option maxHeartbeats 1000000 in
theorem asks_t_t_many (n en lcr : Int) (m : Nat) (w : World) (cl ce : UInt8) (hn : 0 ≤ n ∧ n < 256) (hm : n.tmod 20 = (m : Int)) (hm20 : m < 20) (hmc : 16 < m) (hcl : bits .and .u32 lcr 255 = (cl.toNat : Int)) (hce : bits .and .u32 en 255 = (ce.toNat : Int))
    (hP : (bits .and .u32 lcr 128 == 0) = true) (hQ : (bits .and .u32 en 1 == 1) = true) (hp : (bits .and .u32 (cl.toNat : Int) 128 == 0) = true) (hq : (bits .and .u32 (ce.toNat : Int) 1 == 1) = true) (h1 : bits .and .u32 (ce.toNat : Int) 1 = 0 ∨ bits .and .u32 (ce.toNat : Int) 1 = 1) :
    Calls Try.prog 5 #[.int .u8 n, .int .u32 en, .int .u32 lcr] w fun e w' => e = .returned (.bool true) ∧ Below w.heap.size w w' := by
  have hup := up_A true true cl ce m hq h1
  obtain ⟨n1, n2⟩ := hn
  have HP := _root_.Go.Lib.hid hp
  have CL := _root_.Go.Lib.hid hcl
  have CE := _root_.Go.Lib.hid hce
  have UP := _root_.Go.Lib.hid hup
  clear hp hq h1 hcl hce hup
  generalize hr : rA true cl ce = r at UP
  have HR := _root_.Go.Lib.hid hr
  clear hr
  have hz : ((m : Int) > 0) = True := by simp; omega
  have hmin : ((m : Int) ≤ 16) = False := by simp; omega
  go_enter Try.func5, Try.ntmps5
  go_wp2_with fail
  refine (alive_calls _).mono ?_
  rintro e w1 ⟨rfl, h1⟩
  have H1 := _root_.Go.Lib.hid h1
  clear h1
  go_wp2_with fail
  refine (new_u (B := w.heap.size) (W := w) [] H1.out H1.out.size (fun p hp => by cases hp)).mono ?_
  rintro e w2 ⟨rfl, h2⟩
  have H2 := _root_.Go.Lib.hid h2
  clear h2 H1
  go_wp2_with fail
  refine (set_u H2.out 12 lcr cl true _ (by decide) CL.out (by decide) (by kernel_rfl) (first_A cl)).mono ?_
  rintro e w3 ⟨rfl, h3⟩
  have H3 := _root_.Go.Lib.hid h3
  clear h3 H2
  go_wp2_with fail
  refine (set_u H3.out 4 en ce true _ (by decide) CE.out (by show (0 : Nat) ≤ 1000; decide) (by kernel_rfl) ((second_A true cl ce HP.out).trans (by rw [HR.out]))).mono ?_
  rintro e w4 ⟨rfl, h4⟩
  have H4 := _root_.Go.Lib.hid h4
  clear h4 H3
  go_wp2_with fail
  go_loopg [33] m (fun k i wr => ∃ j : Nat, j + k = m ∧ i = .int .i64 (j : Int) ∧ UW w.heap.size w1.heap.size (stA r j) w [] wr)
  case atStart => exact ⟨0, by omega, rfl, H4.out⟩
  case round =>
    obtain ⟨j, hj, rfl, hu⟩ := hrel
    have HU := _root_.Go.Lib.hid hu
    clear hu H4
    by_cases hjm : j < m
    · have hlt : ((j : Int) < m) = True := by simp; omega
      go_wp2_with fail
      refine (feed_u HU.out ⟨#[120]⟩ (stA r (j + 1)) (by simp [stA]; omega) (by decide) (feed_A r j)).mono ?_
      rintro e w5 ⟨rfl, h5⟩
      have H5 := _root_.Go.Lib.hid h5
      clear h5 HU
      go_wp2_with fail
      go_roundg (m - (j + 1))
      case measure => omega
      case rel => exact ⟨j + 1, by omega, by first | rfl | go_num, H5.out⟩
    · have hlt : ((j : Int) < m) = False := by simp; omega
      obtain rfl : j = m := by omega
      go_wp2_with fail
      refine (up_u HU.out true (UP.out.trans (by simp; try omega))).mono ?_
      rintro e w' ⟨rfl, rfl⟩
      go_wp2_with fail
      refine (set_u HU.out 12 0 0 true _ (by decide) (by kernel_rfl) (by show (0 : Nat) ≤ 1000; decide) (by kernel_rfl) (third_A r j)).mono ?_
      rintro e w6 ⟨rfl, h6⟩
      have H6 := _root_.Go.Lib.hid h6
      clear h6
      have H6' := _root_.Go.Lib.hid (show UW w.heap.size w1.heap.size (stB (upd r 3 0) (List.replicate (16 - 0) 120) (decide (16 < j))) w [] w6 from by have := H6.out; rwa [show min j 16 = 16 - 0 by omega] at this)
      clear H6
      generalize hov : decide (16 < j) = ov at H6'
      clear hov
      go_wp2_with fail
      go_loopg [53] 16 (fun k i wr => ∃ j2 : Nat, j2 + k = 16 ∧ i = .int .i64 (j2 : Int) ∧ UW w.heap.size w1.heap.size (stB (upd r 3 0) (List.replicate (16 - j2) 120) ov) w [] wr)
      case atStart => exact ⟨0, by omega, rfl, H6'.out⟩
      case round =>
        obtain ⟨j2, hj2, rfl, hu2⟩ := hrel
        have HV := _root_.Go.Lib.hid hu2
        clear hu2 H6'
        by_cases hj2m : j2 < 16
        · have hlt2 : ((j2 : Int) < (16 : Int)) = True := by simp; omega
          go_wp2_with fail
          refine (get_u HV.out 0 _ true _ (by decide) rfl (by kernel_rfl) (get_B r ov j2 16 hj2m)).mono ?_
          rintro e w7 ⟨rfl, h7⟩
          have H7 := _root_.Go.Lib.hid h7
          clear h7 HV
          go_wp2_with fail
          go_roundg (16 - (j2 + 1))
          case measure => omega
          case rel => exact ⟨j2 + 1, by omega, by first | rfl | go_num, H7.out⟩
        · have hlt2 : ((j2 : Int) < (16 : Int)) = False := by simp <;> omega
          have HW := _root_.Go.Lib.hid (show UW w.heap.size w1.heap.size (stB (upd r 3 0) [] ov) w [] wr from by have := HV.out; rwa [show 16 - j2 = 0 by omega] at this)
          clear HV
          go_wp2_with fail
          refine (up_u HW.out false (by show (_ && decide (0 < 0)) = false; simp)).mono ?_
          rintro e w' ⟨rfl, rfl⟩
          go_wp2_with fail
          refine (feed_u HW.out ⟨#[121]⟩ (stB (upd r 3 0) [121] ov) (by show (0 : Nat) ≤ 16; decide) (by decide) (by show stB (upd r 3 0) [121] (ov || decide (16 - 0 < 1)) = _; simp)).mono ?_
          rintro e w8 ⟨rfl, h8⟩
          have H8 := _root_.Go.Lib.hid h8
          clear h8
          go_wp2_with fail
          refine (set_u H8.out 4 1 1 true (stB (upd (upd r 3 0) 1 1) [121] ov) (by decide) (by kernel_rfl) (by show (0 : Nat) ≤ 1000; decide) (by kernel_rfl) (by kernel_rfl)).mono ?_
          rintro e w9 ⟨rfl, h9⟩
          have H9 := _root_.Go.Lib.hid h9
          clear h9 H8
          go_wp2_with fail
          refine (up_u H9.out true (by kernel_rfl)).mono ?_
          rintro e w' ⟨rfl, rfl⟩
          go_wp2_with fail
          refine (set_u H9.out 8 2 2 true (stB (upd (upd r 3 0) 1 1) [] ov) (by decide) (by kernel_rfl) (by show (0 : Nat) ≤ 1000; decide) (by kernel_rfl) (by kernel_rfl)).mono ?_
          rintro e w10 ⟨rfl, h10⟩
          have H10 := _root_.Go.Lib.hid h10
          clear h10 H9
          go_wp2_with fail
          refine (up_u H10.out false (by kernel_rfl)).mono ?_
          rintro e w' ⟨rfl, rfl⟩
          go_wp2_with fail
          go_ret
          exact ⟨rfl, H10.out.bel⟩
set_option maxRecDepth 100000 in
set_option maxHeartbeats 1000000 in
theorem asks_t_f_zero (n en lcr : Int) (m : Nat) (w : World) (cl ce : UInt8) (hn : 0 ≤ n ∧ n < 256) (hm : n.tmod 20 = (m : Int)) (hm20 : m < 20) (hmc : m = 0) (hcl : bits .and .u32 lcr 255 = (cl.toNat : Int)) (hce : bits .and .u32 en 255 = (ce.toNat : Int))
    (hP : (bits .and .u32 lcr 128 == 0) = true) (hQ : (bits .and .u32 en 1 == 1) = false) (hp : (bits .and .u32 (cl.toNat : Int) 128 == 0) = true) (hq : (bits .and .u32 (ce.toNat : Int) 1 == 1) = false) (h1 : bits .and .u32 (ce.toNat : Int) 1 = 0 ∨ bits .and .u32 (ce.toNat : Int) 1 = 1) :
    Calls Try.prog 5 #[.int .u8 n, .int .u32 en, .int .u32 lcr] w fun e w' => e = .returned (.bool true) ∧ Below w.heap.size w w' := by
  have hup := up_A true false cl ce m hq h1
  obtain ⟨n1, n2⟩ := hn
  have HP := _root_.Go.Lib.hid hp
  have CL := _root_.Go.Lib.hid hcl
  have CE := _root_.Go.Lib.hid hce
  have UP := _root_.Go.Lib.hid hup
  clear hp hq h1 hcl hce hup
  generalize hr : rA true cl ce = r at UP
  have HR := _root_.Go.Lib.hid hr
  clear hr
  subst hmc
  go_enter Try.func5, Try.ntmps5
  go_wp2_with fail
  refine (alive_calls _).mono ?_
  rintro e w1 ⟨rfl, h1⟩
  have H1 := _root_.Go.Lib.hid h1
  clear h1
  go_wp2_with fail
  refine (new_u (B := w.heap.size) (W := w) [] H1.out H1.out.size (fun p hp => by cases hp)).mono ?_
  rintro e w2 ⟨rfl, h2⟩
  have H2 := _root_.Go.Lib.hid h2
  clear h2 H1
  go_wp2_with fail
  refine (set_u H2.out 12 lcr cl true _ (by decide) CL.out (by decide) (by kernel_rfl) (first_A cl)).mono ?_
  rintro e w3 ⟨rfl, h3⟩
  have H3 := _root_.Go.Lib.hid h3
  clear h3 H2
  go_wp2_with fail
  refine (set_u H3.out 4 en ce true _ (by decide) CE.out (by show (0 : Nat) ≤ 1000; decide) (by kernel_rfl) ((second_A true cl ce HP.out).trans (by rw [HR.out]))).mono ?_
  rintro e w4 ⟨rfl, h4⟩
  have H4 := _root_.Go.Lib.hid h4
  clear h4 H3
  go_wp2_with fail
  go_loopg [33] 0 (fun k i wr => i = .int .i64 0 ∧ UW w.heap.size w1.heap.size (stA r 0) w [] wr)
  case atStart => exact ⟨rfl, H4.out⟩
  case round =>
    obtain ⟨rfl, hu⟩ := hrel
    have HU := _root_.Go.Lib.hid hu
    clear hu H4
    go_wp2_with fail
    refine (up_u HU.out false (UP.out.trans (by simp))).mono ?_
    rintro e w' ⟨rfl, rfl⟩
    go_wp2_with fail
    refine (set_u HU.out 12 0 0 true _ (by decide) (by kernel_rfl) (by show (0 : Nat) ≤ 1000; decide) (by kernel_rfl) (third_A r 0)).mono ?_
    rintro e w6 ⟨rfl, h6⟩
    have H6 := _root_.Go.Lib.hid h6
    clear h6
    have H6' := _root_.Go.Lib.hid (show UW w.heap.size w1.heap.size (stB (upd r 3 0) (List.replicate (0 - 0) 120) (decide (16 < 0))) w [] w6 from by have := H6.out; rwa [show min 0 16 = 0 - 0 by omega] at this)
    clear H6
    generalize hov : decide (16 < 0) = ov at H6'
    clear hov
    go_wp2_with fail
    go_loopg [53] 0 (fun k i wr => ∃ j2 : Nat, j2 + k = 0 ∧ i = .int .i64 (j2 : Int) ∧ UW w.heap.size w1.heap.size (stB (upd r 3 0) (List.replicate (0 - j2) 120) ov) w [] wr)
    case atStart => exact ⟨0, by omega, rfl, H6'.out⟩
    case round =>
      obtain ⟨j2, hj2, rfl, hu2⟩ := hrel
      have HV := _root_.Go.Lib.hid hu2
      clear hu2 H6'
      by_cases hj2m : j2 < 0
      · have hlt2 : ((j2 : Int) < (0 : Int)) = True := by simp; omega
        go_wp2_with fail
        refine (get_u HV.out 0 _ true _ (by decide) rfl (by kernel_rfl) (get_B r ov j2 0 hj2m)).mono ?_
        rintro e w7 ⟨rfl, h7⟩
        have H7 := _root_.Go.Lib.hid h7
        clear h7 HV
        go_wp2_with fail
        go_roundg (0 - (j2 + 1))
        case measure => omega
        case rel => exact ⟨j2 + 1, by omega, by first | rfl | go_num, H7.out⟩
      · have hlt2 : ((j2 : Int) < (0 : Int)) = False := by simp <;> omega
        have HW := _root_.Go.Lib.hid (show UW w.heap.size w1.heap.size (stB (upd r 3 0) [] ov) w [] wr from by have := HV.out; rwa [show 0 - j2 = 0 by omega] at this)
        clear HV
        go_wp2_with fail
        refine (up_u HW.out false (by show (_ && decide (0 < 0)) = false; simp)).mono ?_
        rintro e w' ⟨rfl, rfl⟩
        go_wp2_with fail
        refine (feed_u HW.out ⟨#[121]⟩ (stB (upd r 3 0) [121] ov) (by show (0 : Nat) ≤ 16; decide) (by decide) (by show stB (upd r 3 0) [121] (ov || decide (16 - 0 < 1)) = _; simp)).mono ?_
        rintro e w8 ⟨rfl, h8⟩
        have H8 := _root_.Go.Lib.hid h8
        clear h8
        go_wp2_with fail
        refine (set_u H8.out 4 1 1 true (stB (upd (upd r 3 0) 1 1) [121] ov) (by decide) (by kernel_rfl) (by show (0 : Nat) ≤ 1000; decide) (by kernel_rfl) (by kernel_rfl)).mono ?_
        rintro e w9 ⟨rfl, h9⟩
        have H9 := _root_.Go.Lib.hid h9
        clear h9 H8
        go_wp2_with fail
        refine (up_u H9.out true (by kernel_rfl)).mono ?_
        rintro e w' ⟨rfl, rfl⟩
        go_wp2_with fail
        refine (set_u H9.out 8 2 2 true (stB (upd (upd r 3 0) 1 1) [] ov) (by decide) (by kernel_rfl) (by show (0 : Nat) ≤ 1000; decide) (by kernel_rfl) (by kernel_rfl)).mono ?_
        rintro e w10 ⟨rfl, h10⟩
        have H10 := _root_.Go.Lib.hid h10
        clear h10 H9
        go_wp2_with fail
        refine (up_u H10.out false (by kernel_rfl)).mono ?_
        rintro e w' ⟨rfl, rfl⟩
        go_wp2_with fail
        go_ret
        exact ⟨rfl, H10.out.bel⟩
set_option maxRecDepth 100000 in
set_option maxHeartbeats 1000000 in
theorem asks_t_f_some (n en lcr : Int) (m : Nat) (w : World) (cl ce : UInt8) (hn : 0 ≤ n ∧ n < 256) (hm : n.tmod 20 = (m : Int)) (hm20 : m < 20) (hmc : 0 < m ∧ m ≤ 16) (hcl : bits .and .u32 lcr 255 = (cl.toNat : Int)) (hce : bits .and .u32 en 255 = (ce.toNat : Int))
    (hP : (bits .and .u32 lcr 128 == 0) = true) (hQ : (bits .and .u32 en 1 == 1) = false) (hp : (bits .and .u32 (cl.toNat : Int) 128 == 0) = true) (hq : (bits .and .u32 (ce.toNat : Int) 1 == 1) = false) (h1 : bits .and .u32 (ce.toNat : Int) 1 = 0 ∨ bits .and .u32 (ce.toNat : Int) 1 = 1) :
    Calls Try.prog 5 #[.int .u8 n, .int .u32 en, .int .u32 lcr] w fun e w' => e = .returned (.bool true) ∧ Below w.heap.size w w' := by
  have hup := up_A true false cl ce m hq h1
  obtain ⟨n1, n2⟩ := hn
  have HP := _root_.Go.Lib.hid hp
  have CL := _root_.Go.Lib.hid hcl
  have CE := _root_.Go.Lib.hid hce
  have UP := _root_.Go.Lib.hid hup
  clear hp hq h1 hcl hce hup
  generalize hr : rA true cl ce = r at UP
  have HR := _root_.Go.Lib.hid hr
  clear hr
  obtain ⟨hm1, hm2⟩ := hmc
  have hz : ((m : Int) > 0) = True := by simp; omega
  have hmin : ((m : Int) ≤ 16) = True := by simp; omega
  go_enter Try.func5, Try.ntmps5
  go_wp2_with fail
  refine (alive_calls _).mono ?_
  rintro e w1 ⟨rfl, h1⟩
  have H1 := _root_.Go.Lib.hid h1
  clear h1
  go_wp2_with fail
  refine (new_u (B := w.heap.size) (W := w) [] H1.out H1.out.size (fun p hp => by cases hp)).mono ?_
  rintro e w2 ⟨rfl, h2⟩
  have H2 := _root_.Go.Lib.hid h2
  clear h2 H1
  go_wp2_with fail
  refine (set_u H2.out 12 lcr cl true _ (by decide) CL.out (by decide) (by kernel_rfl) (first_A cl)).mono ?_
  rintro e w3 ⟨rfl, h3⟩
  have H3 := _root_.Go.Lib.hid h3
  clear h3 H2
  go_wp2_with fail
  refine (set_u H3.out 4 en ce true _ (by decide) CE.out (by show (0 : Nat) ≤ 1000; decide) (by kernel_rfl) ((second_A true cl ce HP.out).trans (by rw [HR.out]))).mono ?_
  rintro e w4 ⟨rfl, h4⟩
  have H4 := _root_.Go.Lib.hid h4
  clear h4 H3
  go_wp2_with fail
  go_loopg [33] m (fun k i wr => ∃ j : Nat, j + k = m ∧ i = .int .i64 (j : Int) ∧ UW w.heap.size w1.heap.size (stA r j) w [] wr)
  case atStart => exact ⟨0, by omega, rfl, H4.out⟩
  case round =>
    obtain ⟨j, hj, rfl, hu⟩ := hrel
    have HU := _root_.Go.Lib.hid hu
    clear hu H4
    by_cases hjm : j < m
    · have hlt : ((j : Int) < m) = True := by simp; omega
      go_wp2_with fail
      refine (feed_u HU.out ⟨#[120]⟩ (stA r (j + 1)) (by simp [stA]; omega) (by decide) (feed_A r j)).mono ?_
      rintro e w5 ⟨rfl, h5⟩
      have H5 := _root_.Go.Lib.hid h5
      clear h5 HU
      go_wp2_with fail
      go_roundg (m - (j + 1))
      case measure => omega
      case rel => exact ⟨j + 1, by omega, by first | rfl | go_num, H5.out⟩
    · have hlt : ((j : Int) < m) = False := by simp; omega
      obtain rfl : j = m := by omega
      go_wp2_with fail
      refine (up_u HU.out false (UP.out.trans (by simp; try omega))).mono ?_
      rintro e w' ⟨rfl, rfl⟩
      go_wp2_with fail
      refine (set_u HU.out 12 0 0 true _ (by decide) (by kernel_rfl) (by show (0 : Nat) ≤ 1000; decide) (by kernel_rfl) (third_A r j)).mono ?_
      rintro e w6 ⟨rfl, h6⟩
      have H6 := _root_.Go.Lib.hid h6
      clear h6
      have H6' := _root_.Go.Lib.hid (show UW w.heap.size w1.heap.size (stB (upd r 3 0) (List.replicate (j - 0) 120) (decide (16 < j))) w [] w6 from by have := H6.out; rwa [show min j 16 = j - 0 by omega] at this)
      clear H6
      generalize hov : decide (16 < j) = ov at H6'
      clear hov
      go_wp2_with fail
      go_loopg [53] j (fun k i wr => ∃ j2 : Nat, j2 + k = j ∧ i = .int .i64 (j2 : Int) ∧ UW w.heap.size w1.heap.size (stB (upd r 3 0) (List.replicate (j - j2) 120) ov) w [] wr)
      case atStart => exact ⟨0, by omega, rfl, H6'.out⟩
      case round =>
        obtain ⟨j2, hj2, rfl, hu2⟩ := hrel
        have HV := _root_.Go.Lib.hid hu2
        clear hu2 H6'
        by_cases hj2m : j2 < j
        · have hlt2 : ((j2 : Int) < (j : Int)) = True := by simp; omega
          go_wp2_with fail
          refine (get_u HV.out 0 _ true _ (by decide) rfl (by kernel_rfl) (get_B r ov j2 j hj2m)).mono ?_
          rintro e w7 ⟨rfl, h7⟩
          have H7 := _root_.Go.Lib.hid h7
          clear h7 HV
          go_wp2_with fail
          go_roundg (j - (j2 + 1))
          case measure => omega
          case rel => exact ⟨j2 + 1, by omega, by first | rfl | go_num, H7.out⟩
        · have hlt2 : ((j2 : Int) < (j : Int)) = False := by simp <;> omega
          have HW := _root_.Go.Lib.hid (show UW w.heap.size w1.heap.size (stB (upd r 3 0) [] ov) w [] wr from by have := HV.out; rwa [show j - j2 = 0 by omega] at this)
          clear HV
          go_wp2_with fail
          refine (up_u HW.out false (by show (_ && decide (0 < 0)) = false; simp)).mono ?_
          rintro e w' ⟨rfl, rfl⟩
          go_wp2_with fail
          refine (feed_u HW.out ⟨#[121]⟩ (stB (upd r 3 0) [121] ov) (by show (0 : Nat) ≤ 16; decide) (by decide) (by show stB (upd r 3 0) [121] (ov || decide (16 - 0 < 1)) = _; simp)).mono ?_
          rintro e w8 ⟨rfl, h8⟩
          have H8 := _root_.Go.Lib.hid h8
          clear h8
          go_wp2_with fail
          refine (set_u H8.out 4 1 1 true (stB (upd (upd r 3 0) 1 1) [121] ov) (by decide) (by kernel_rfl) (by show (0 : Nat) ≤ 1000; decide) (by kernel_rfl) (by kernel_rfl)).mono ?_
          rintro e w9 ⟨rfl, h9⟩
          have H9 := _root_.Go.Lib.hid h9
          clear h9 H8
          go_wp2_with fail
          refine (up_u H9.out true (by kernel_rfl)).mono ?_
          rintro e w' ⟨rfl, rfl⟩
          go_wp2_with fail
          refine (set_u H9.out 8 2 2 true (stB (upd (upd r 3 0) 1 1) [] ov) (by decide) (by kernel_rfl) (by show (0 : Nat) ≤ 1000; decide) (by kernel_rfl) (by kernel_rfl)).mono ?_
          rintro e w10 ⟨rfl, h10⟩
          have H10 := _root_.Go.Lib.hid h10
          clear h10 H9
          go_wp2_with fail
          refine (up_u H10.out false (by kernel_rfl)).mono ?_
          rintro e w' ⟨rfl, rfl⟩
          go_wp2_with fail
          go_ret
          exact ⟨rfl, H10.out.bel⟩
set_option maxRecDepth 100000 in
set_option maxHeartbeats 1000000 in
theorem asks_t_f_many (n en lcr : Int) (m : Nat) (w : World) (cl ce : UInt8) (hn : 0 ≤ n ∧ n < 256) (hm : n.tmod 20 = (m : Int)) (hm20 : m < 20) (hmc : 16 < m) (hcl : bits .and .u32 lcr 255 = (cl.toNat : Int)) (hce : bits .and .u32 en 255 = (ce.toNat : Int))
    (hP : (bits .and .u32 lcr 128 == 0) = true) (hQ : (bits .and .u32 en 1 == 1) = false) (hp : (bits .and .u32 (cl.toNat : Int) 128 == 0) = true) (hq : (bits .and .u32 (ce.toNat : Int) 1 == 1) = false) (h1 : bits .and .u32 (ce.toNat : Int) 1 = 0 ∨ bits .and .u32 (ce.toNat : Int) 1 = 1) :
    Calls Try.prog 5 #[.int .u8 n, .int .u32 en, .int .u32 lcr] w fun e w' => e = .returned (.bool true) ∧ Below w.heap.size w w' := by
  have hup := up_A true false cl ce m hq h1
  obtain ⟨n1, n2⟩ := hn
  have HP := _root_.Go.Lib.hid hp
  have CL := _root_.Go.Lib.hid hcl
  have CE := _root_.Go.Lib.hid hce
  have UP := _root_.Go.Lib.hid hup
  clear hp hq h1 hcl hce hup
  generalize hr : rA true cl ce = r at UP
  have HR := _root_.Go.Lib.hid hr
  clear hr
  have hz : ((m : Int) > 0) = True := by simp; omega
  have hmin : ((m : Int) ≤ 16) = False := by simp; omega
  go_enter Try.func5, Try.ntmps5
  go_wp2_with fail
  refine (alive_calls _).mono ?_
  rintro e w1 ⟨rfl, h1⟩
  have H1 := _root_.Go.Lib.hid h1
  clear h1
  go_wp2_with fail
  refine (new_u (B := w.heap.size) (W := w) [] H1.out H1.out.size (fun p hp => by cases hp)).mono ?_
  rintro e w2 ⟨rfl, h2⟩
  have H2 := _root_.Go.Lib.hid h2
  clear h2 H1
  go_wp2_with fail
  refine (set_u H2.out 12 lcr cl true _ (by decide) CL.out (by decide) (by kernel_rfl) (first_A cl)).mono ?_
  rintro e w3 ⟨rfl, h3⟩
  have H3 := _root_.Go.Lib.hid h3
  clear h3 H2
  go_wp2_with fail
  refine (set_u H3.out 4 en ce true _ (by decide) CE.out (by show (0 : Nat) ≤ 1000; decide) (by kernel_rfl) ((second_A true cl ce HP.out).trans (by rw [HR.out]))).mono ?_
  rintro e w4 ⟨rfl, h4⟩
  have H4 := _root_.Go.Lib.hid h4
  clear h4 H3
  go_wp2_with fail
  go_loopg [33] m (fun k i wr => ∃ j : Nat, j + k = m ∧ i = .int .i64 (j : Int) ∧ UW w.heap.size w1.heap.size (stA r j) w [] wr)
  case atStart => exact ⟨0, by omega, rfl, H4.out⟩
  case round =>
    obtain ⟨j, hj, rfl, hu⟩ := hrel
    have HU := _root_.Go.Lib.hid hu
    clear hu H4
    by_cases hjm : j < m
    · have hlt : ((j : Int) < m) = True := by simp; omega
      go_wp2_with fail
      refine (feed_u HU.out ⟨#[120]⟩ (stA r (j + 1)) (by simp [stA]; omega) (by decide) (feed_A r j)).mono ?_
      rintro e w5 ⟨rfl, h5⟩
      have H5 := _root_.Go.Lib.hid h5
      clear h5 HU
      go_wp2_with fail
      go_roundg (m - (j + 1))
      case measure => omega
      case rel => exact ⟨j + 1, by omega, by first | rfl | go_num, H5.out⟩
    · have hlt : ((j : Int) < m) = False := by simp; omega
      obtain rfl : j = m := by omega
      go_wp2_with fail
      refine (up_u HU.out false (UP.out.trans (by simp; try omega))).mono ?_
      rintro e w' ⟨rfl, rfl⟩
      go_wp2_with fail
      refine (set_u HU.out 12 0 0 true _ (by decide) (by kernel_rfl) (by show (0 : Nat) ≤ 1000; decide) (by kernel_rfl) (third_A r j)).mono ?_
      rintro e w6 ⟨rfl, h6⟩
      have H6 := _root_.Go.Lib.hid h6
      clear h6
      have H6' := _root_.Go.Lib.hid (show UW w.heap.size w1.heap.size (stB (upd r 3 0) (List.replicate (16 - 0) 120) (decide (16 < j))) w [] w6 from by have := H6.out; rwa [show min j 16 = 16 - 0 by omega] at this)
      clear H6
      generalize hov : decide (16 < j) = ov at H6'
      clear hov
      go_wp2_with fail
      go_loopg [53] 16 (fun k i wr => ∃ j2 : Nat, j2 + k = 16 ∧ i = .int .i64 (j2 : Int) ∧ UW w.heap.size w1.heap.size (stB (upd r 3 0) (List.replicate (16 - j2) 120) ov) w [] wr)
      case atStart => exact ⟨0, by omega, rfl, H6'.out⟩
      case round =>
        obtain ⟨j2, hj2, rfl, hu2⟩ := hrel
        have HV := _root_.Go.Lib.hid hu2
        clear hu2 H6'
        by_cases hj2m : j2 < 16
        · have hlt2 : ((j2 : Int) < (16 : Int)) = True := by simp; omega
          go_wp2_with fail
          refine (get_u HV.out 0 _ true _ (by decide) rfl (by kernel_rfl) (get_B r ov j2 16 hj2m)).mono ?_
          rintro e w7 ⟨rfl, h7⟩
          have H7 := _root_.Go.Lib.hid h7
          clear h7 HV
          go_wp2_with fail
          go_roundg (16 - (j2 + 1))
          case measure => omega
          case rel => exact ⟨j2 + 1, by omega, by first | rfl | go_num, H7.out⟩
        · have hlt2 : ((j2 : Int) < (16 : Int)) = False := by simp <;> omega
          have HW := _root_.Go.Lib.hid (show UW w.heap.size w1.heap.size (stB (upd r 3 0) [] ov) w [] wr from by have := HV.out; rwa [show 16 - j2 = 0 by omega] at this)
          clear HV
          go_wp2_with fail
          refine (up_u HW.out false (by show (_ && decide (0 < 0)) = false; simp)).mono ?_
          rintro e w' ⟨rfl, rfl⟩
          go_wp2_with fail
          refine (feed_u HW.out ⟨#[121]⟩ (stB (upd r 3 0) [121] ov) (by show (0 : Nat) ≤ 16; decide) (by decide) (by show stB (upd r 3 0) [121] (ov || decide (16 - 0 < 1)) = _; simp)).mono ?_
          rintro e w8 ⟨rfl, h8⟩
          have H8 := _root_.Go.Lib.hid h8
          clear h8
          go_wp2_with fail
          refine (set_u H8.out 4 1 1 true (stB (upd (upd r 3 0) 1 1) [121] ov) (by decide) (by kernel_rfl) (by show (0 : Nat) ≤ 1000; decide) (by kernel_rfl) (by kernel_rfl)).mono ?_
          rintro e w9 ⟨rfl, h9⟩
          have H9 := _root_.Go.Lib.hid h9
          clear h9 H8
          go_wp2_with fail
          refine (up_u H9.out true (by kernel_rfl)).mono ?_
          rintro e w' ⟨rfl, rfl⟩
          go_wp2_with fail
          refine (set_u H9.out 8 2 2 true (stB (upd (upd r 3 0) 1 1) [] ov) (by decide) (by kernel_rfl) (by show (0 : Nat) ≤ 1000; decide) (by kernel_rfl) (by kernel_rfl)).mono ?_
          rintro e w10 ⟨rfl, h10⟩
          have H10 := _root_.Go.Lib.hid h10
          clear h10 H9
          go_wp2_with fail
          refine (up_u H10.out false (by kernel_rfl)).mono ?_
          rintro e w' ⟨rfl, rfl⟩
          go_wp2_with fail
          go_ret
          exact ⟨rfl, H10.out.bel⟩
set_option maxRecDepth 100000 in
set_option maxHeartbeats 1000000 in
theorem asks_f_t_zero (n en lcr : Int) (m : Nat) (w : World) (cl ce : UInt8) (hn : 0 ≤ n ∧ n < 256) (hm : n.tmod 20 = (m : Int)) (hm20 : m < 20) (hmc : m = 0) (hcl : bits .and .u32 lcr 255 = (cl.toNat : Int)) (hce : bits .and .u32 en 255 = (ce.toNat : Int))
    (hP : (bits .and .u32 lcr 128 == 0) = false) (hQ : (bits .and .u32 en 1 == 1) = true) (hp : (bits .and .u32 (cl.toNat : Int) 128 == 0) = false) (hq : (bits .and .u32 (ce.toNat : Int) 1 == 1) = true) (h1 : bits .and .u32 (ce.toNat : Int) 1 = 0 ∨ bits .and .u32 (ce.toNat : Int) 1 = 1) :
    Calls Try.prog 5 #[.int .u8 n, .int .u32 en, .int .u32 lcr] w fun e w' => e = .returned (.bool true) ∧ Below w.heap.size w w' := by
  have hup := up_A false true cl ce m hq h1
  obtain ⟨n1, n2⟩ := hn
  have HP := _root_.Go.Lib.hid hp
  have CL := _root_.Go.Lib.hid hcl
  have CE := _root_.Go.Lib.hid hce
  have UP := _root_.Go.Lib.hid hup
  clear hp hq h1 hcl hce hup
  generalize hr : rA false cl ce = r at UP
  have HR := _root_.Go.Lib.hid hr
  clear hr
  subst hmc
  go_enter Try.func5, Try.ntmps5
  go_wp2_with fail
  refine (alive_calls _).mono ?_
  rintro e w1 ⟨rfl, h1⟩
  have H1 := _root_.Go.Lib.hid h1
  clear h1
  go_wp2_with fail
  refine (new_u (B := w.heap.size) (W := w) [] H1.out H1.out.size (fun p hp => by cases hp)).mono ?_
  rintro e w2 ⟨rfl, h2⟩
  have H2 := _root_.Go.Lib.hid h2
  clear h2 H1
  go_wp2_with fail
  refine (set_u H2.out 12 lcr cl true _ (by decide) CL.out (by decide) (by kernel_rfl) (first_A cl)).mono ?_
  rintro e w3 ⟨rfl, h3⟩
  have H3 := _root_.Go.Lib.hid h3
  clear h3 H2
  go_wp2_with fail
  refine (set_u H3.out 4 en ce true _ (by decide) CE.out (by show (0 : Nat) ≤ 1000; decide) (by kernel_rfl) ((second_A false cl ce HP.out).trans (by rw [HR.out]))).mono ?_
  rintro e w4 ⟨rfl, h4⟩
  have H4 := _root_.Go.Lib.hid h4
  clear h4 H3
  go_wp2_with fail
  go_loopg [33] 0 (fun k i wr => i = .int .i64 0 ∧ UW w.heap.size w1.heap.size (stA r 0) w [] wr)
  case atStart => exact ⟨rfl, H4.out⟩
  case round =>
    obtain ⟨rfl, hu⟩ := hrel
    have HU := _root_.Go.Lib.hid hu
    clear hu H4
    go_wp2_with fail
    refine (up_u HU.out false (UP.out.trans (by simp))).mono ?_
    rintro e w' ⟨rfl, rfl⟩
    go_wp2_with fail
    refine (set_u HU.out 12 0 0 true _ (by decide) (by kernel_rfl) (by show (0 : Nat) ≤ 1000; decide) (by kernel_rfl) (third_A r 0)).mono ?_
    rintro e w6 ⟨rfl, h6⟩
    have H6 := _root_.Go.Lib.hid h6
    clear h6
    have H6' := _root_.Go.Lib.hid (show UW w.heap.size w1.heap.size (stB (upd r 3 0) (List.replicate (0 - 0) 120) (decide (16 < 0))) w [] w6 from by have := H6.out; rwa [show min 0 16 = 0 - 0 by omega] at this)
    clear H6
    generalize hov : decide (16 < 0) = ov at H6'
    clear hov
    go_wp2_with fail
    go_loopg [53] 0 (fun k i wr => ∃ j2 : Nat, j2 + k = 0 ∧ i = .int .i64 (j2 : Int) ∧ UW w.heap.size w1.heap.size (stB (upd r 3 0) (List.replicate (0 - j2) 120) ov) w [] wr)
    case atStart => exact ⟨0, by omega, rfl, H6'.out⟩
    case round =>
      obtain ⟨j2, hj2, rfl, hu2⟩ := hrel
      have HV := _root_.Go.Lib.hid hu2
      clear hu2 H6'
      by_cases hj2m : j2 < 0
      · have hlt2 : ((j2 : Int) < (0 : Int)) = True := by simp; omega
        go_wp2_with fail
        refine (get_u HV.out 0 _ true _ (by decide) rfl (by kernel_rfl) (get_B r ov j2 0 hj2m)).mono ?_
        rintro e w7 ⟨rfl, h7⟩
        have H7 := _root_.Go.Lib.hid h7
        clear h7 HV
        go_wp2_with fail
        go_roundg (0 - (j2 + 1))
        case measure => omega
        case rel => exact ⟨j2 + 1, by omega, by first | rfl | go_num, H7.out⟩
      · have hlt2 : ((j2 : Int) < (0 : Int)) = False := by simp <;> omega
        have HW := _root_.Go.Lib.hid (show UW w.heap.size w1.heap.size (stB (upd r 3 0) [] ov) w [] wr from by have := HV.out; rwa [show 0 - j2 = 0 by omega] at this)
        clear HV
        go_wp2_with fail
        refine (up_u HW.out false (by show (_ && decide (0 < 0)) = false; simp)).mono ?_
        rintro e w' ⟨rfl, rfl⟩
        go_wp2_with fail
        refine (feed_u HW.out ⟨#[121]⟩ (stB (upd r 3 0) [121] ov) (by show (0 : Nat) ≤ 16; decide) (by decide) (by show stB (upd r 3 0) [121] (ov || decide (16 - 0 < 1)) = _; simp)).mono ?_
        rintro e w8 ⟨rfl, h8⟩
        have H8 := _root_.Go.Lib.hid h8
        clear h8
        go_wp2_with fail
        refine (set_u H8.out 4 1 1 true (stB (upd (upd r 3 0) 1 1) [121] ov) (by decide) (by kernel_rfl) (by show (0 : Nat) ≤ 1000; decide) (by kernel_rfl) (by kernel_rfl)).mono ?_
        rintro e w9 ⟨rfl, h9⟩
        have H9 := _root_.Go.Lib.hid h9
        clear h9 H8
        go_wp2_with fail
        refine (up_u H9.out true (by kernel_rfl)).mono ?_
        rintro e w' ⟨rfl, rfl⟩
        go_wp2_with fail
        refine (set_u H9.out 8 2 2 true (stB (upd (upd r 3 0) 1 1) [] ov) (by decide) (by kernel_rfl) (by show (0 : Nat) ≤ 1000; decide) (by kernel_rfl) (by kernel_rfl)).mono ?_
        rintro e w10 ⟨rfl, h10⟩
        have H10 := _root_.Go.Lib.hid h10
        clear h10 H9
        go_wp2_with fail
        refine (up_u H10.out false (by kernel_rfl)).mono ?_
        rintro e w' ⟨rfl, rfl⟩
        go_wp2_with fail
        go_ret
        exact ⟨rfl, H10.out.bel⟩
set_option maxRecDepth 100000 in
set_option maxHeartbeats 1000000 in
theorem asks_f_t_some (n en lcr : Int) (m : Nat) (w : World) (cl ce : UInt8) (hn : 0 ≤ n ∧ n < 256) (hm : n.tmod 20 = (m : Int)) (hm20 : m < 20) (hmc : 0 < m ∧ m ≤ 16) (hcl : bits .and .u32 lcr 255 = (cl.toNat : Int)) (hce : bits .and .u32 en 255 = (ce.toNat : Int))
    (hP : (bits .and .u32 lcr 128 == 0) = false) (hQ : (bits .and .u32 en 1 == 1) = true) (hp : (bits .and .u32 (cl.toNat : Int) 128 == 0) = false) (hq : (bits .and .u32 (ce.toNat : Int) 1 == 1) = true) (h1 : bits .and .u32 (ce.toNat : Int) 1 = 0 ∨ bits .and .u32 (ce.toNat : Int) 1 = 1) :
    Calls Try.prog 5 #[.int .u8 n, .int .u32 en, .int .u32 lcr] w fun e w' => e = .returned (.bool true) ∧ Below w.heap.size w w' := by
  have hup := up_A false true cl ce m hq h1
  obtain ⟨n1, n2⟩ := hn
  have HP := _root_.Go.Lib.hid hp
  have CL := _root_.Go.Lib.hid hcl
  have CE := _root_.Go.Lib.hid hce
  have UP := _root_.Go.Lib.hid hup
  clear hp hq h1 hcl hce hup
  generalize hr : rA false cl ce = r at UP
  have HR := _root_.Go.Lib.hid hr
  clear hr
  obtain ⟨hm1, hm2⟩ := hmc
  have hz : ((m : Int) > 0) = True := by simp; omega
  have hmin : ((m : Int) ≤ 16) = True := by simp; omega
  go_enter Try.func5, Try.ntmps5
  go_wp2_with fail
  refine (alive_calls _).mono ?_
  rintro e w1 ⟨rfl, h1⟩
  have H1 := _root_.Go.Lib.hid h1
  clear h1
  go_wp2_with fail
  refine (new_u (B := w.heap.size) (W := w) [] H1.out H1.out.size (fun p hp => by cases hp)).mono ?_
  rintro e w2 ⟨rfl, h2⟩
  have H2 := _root_.Go.Lib.hid h2
  clear h2 H1
  go_wp2_with fail
  refine (set_u H2.out 12 lcr cl true _ (by decide) CL.out (by decide) (by kernel_rfl) (first_A cl)).mono ?_
  rintro e w3 ⟨rfl, h3⟩
  have H3 := _root_.Go.Lib.hid h3
  clear h3 H2
  go_wp2_with fail
  refine (set_u H3.out 4 en ce true _ (by decide) CE.out (by show (0 : Nat) ≤ 1000; decide) (by kernel_rfl) ((second_A false cl ce HP.out).trans (by rw [HR.out]))).mono ?_
  rintro e w4 ⟨rfl, h4⟩
  have H4 := _root_.Go.Lib.hid h4
  clear h4 H3
  go_wp2_with fail
  go_loopg [33] m (fun k i wr => ∃ j : Nat, j + k = m ∧ i = .int .i64 (j : Int) ∧ UW w.heap.size w1.heap.size (stA r j) w [] wr)
  case atStart => exact ⟨0, by omega, rfl, H4.out⟩
  case round =>
    obtain ⟨j, hj, rfl, hu⟩ := hrel
    have HU := _root_.Go.Lib.hid hu
    clear hu H4
    by_cases hjm : j < m
    · have hlt : ((j : Int) < m) = True := by simp; omega
      go_wp2_with fail
      refine (feed_u HU.out ⟨#[120]⟩ (stA r (j + 1)) (by simp [stA]; omega) (by decide) (feed_A r j)).mono ?_
      rintro e w5 ⟨rfl, h5⟩
      have H5 := _root_.Go.Lib.hid h5
      clear h5 HU
      go_wp2_with fail
      go_roundg (m - (j + 1))
      case measure => omega
      case rel => exact ⟨j + 1, by omega, by first | rfl | go_num, H5.out⟩
    · have hlt : ((j : Int) < m) = False := by simp; omega
      obtain rfl : j = m := by omega
      go_wp2_with fail
      refine (up_u HU.out false (UP.out.trans (by simp; try omega))).mono ?_
      rintro e w' ⟨rfl, rfl⟩
      go_wp2_with fail
      refine (set_u HU.out 12 0 0 true _ (by decide) (by kernel_rfl) (by show (0 : Nat) ≤ 1000; decide) (by kernel_rfl) (third_A r j)).mono ?_
      rintro e w6 ⟨rfl, h6⟩
      have H6 := _root_.Go.Lib.hid h6
      clear h6
      have H6' := _root_.Go.Lib.hid (show UW w.heap.size w1.heap.size (stB (upd r 3 0) (List.replicate (j - 0) 120) (decide (16 < j))) w [] w6 from by have := H6.out; rwa [show min j 16 = j - 0 by omega] at this)
      clear H6
      generalize hov : decide (16 < j) = ov at H6'
      clear hov
      go_wp2_with fail
      go_loopg [53] j (fun k i wr => ∃ j2 : Nat, j2 + k = j ∧ i = .int .i64 (j2 : Int) ∧ UW w.heap.size w1.heap.size (stB (upd r 3 0) (List.replicate (j - j2) 120) ov) w [] wr)
      case atStart => exact ⟨0, by omega, rfl, H6'.out⟩
      case round =>
        obtain ⟨j2, hj2, rfl, hu2⟩ := hrel
        have HV := _root_.Go.Lib.hid hu2
        clear hu2 H6'
        by_cases hj2m : j2 < j
        · have hlt2 : ((j2 : Int) < (j : Int)) = True := by simp; omega
          go_wp2_with fail
          refine (get_u HV.out 0 _ true _ (by decide) rfl (by kernel_rfl) (get_B r ov j2 j hj2m)).mono ?_
          rintro e w7 ⟨rfl, h7⟩
          have H7 := _root_.Go.Lib.hid h7
          clear h7 HV
          go_wp2_with fail
          go_roundg (j - (j2 + 1))
          case measure => omega
          case rel => exact ⟨j2 + 1, by omega, by first | rfl | go_num, H7.out⟩
        · have hlt2 : ((j2 : Int) < (j : Int)) = False := by simp <;> omega
          have HW := _root_.Go.Lib.hid (show UW w.heap.size w1.heap.size (stB (upd r 3 0) [] ov) w [] wr from by have := HV.out; rwa [show j - j2 = 0 by omega] at this)
          clear HV
          go_wp2_with fail
          refine (up_u HW.out false (by show (_ && decide (0 < 0)) = false; simp)).mono ?_
          rintro e w' ⟨rfl, rfl⟩
          go_wp2_with fail
          refine (feed_u HW.out ⟨#[121]⟩ (stB (upd r 3 0) [121] ov) (by show (0 : Nat) ≤ 16; decide) (by decide) (by show stB (upd r 3 0) [121] (ov || decide (16 - 0 < 1)) = _; simp)).mono ?_
          rintro e w8 ⟨rfl, h8⟩
          have H8 := _root_.Go.Lib.hid h8
          clear h8
          go_wp2_with fail
          refine (set_u H8.out 4 1 1 true (stB (upd (upd r 3 0) 1 1) [121] ov) (by decide) (by kernel_rfl) (by show (0 : Nat) ≤ 1000; decide) (by kernel_rfl) (by kernel_rfl)).mono ?_
          rintro e w9 ⟨rfl, h9⟩
          have H9 := _root_.Go.Lib.hid h9
          clear h9 H8
          go_wp2_with fail
          refine (up_u H9.out true (by kernel_rfl)).mono ?_
          rintro e w' ⟨rfl, rfl⟩
          go_wp2_with fail
          refine (set_u H9.out 8 2 2 true (stB (upd (upd r 3 0) 1 1) [] ov) (by decide) (by kernel_rfl) (by show (0 : Nat) ≤ 1000; decide) (by kernel_rfl) (by kernel_rfl)).mono ?_
          rintro e w10 ⟨rfl, h10⟩
          have H10 := _root_.Go.Lib.hid h10
          clear h10 H9
          go_wp2_with fail
          refine (up_u H10.out false (by kernel_rfl)).mono ?_
          rintro e w' ⟨rfl, rfl⟩
          go_wp2_with fail
          go_ret
          exact ⟨rfl, H10.out.bel⟩
set_option maxRecDepth 100000 in
set_option maxHeartbeats 1000000 in
theorem asks_f_t_many (n en lcr : Int) (m : Nat) (w : World) (cl ce : UInt8) (hn : 0 ≤ n ∧ n < 256) (hm : n.tmod 20 = (m : Int)) (hm20 : m < 20) (hmc : 16 < m) (hcl : bits .and .u32 lcr 255 = (cl.toNat : Int)) (hce : bits .and .u32 en 255 = (ce.toNat : Int))
    (hP : (bits .and .u32 lcr 128 == 0) = false) (hQ : (bits .and .u32 en 1 == 1) = true) (hp : (bits .and .u32 (cl.toNat : Int) 128 == 0) = false) (hq : (bits .and .u32 (ce.toNat : Int) 1 == 1) = true) (h1 : bits .and .u32 (ce.toNat : Int) 1 = 0 ∨ bits .and .u32 (ce.toNat : Int) 1 = 1) :
    Calls Try.prog 5 #[.int .u8 n, .int .u32 en, .int .u32 lcr] w fun e w' => e = .returned (.bool true) ∧ Below w.heap.size w w' := by
  have hup := up_A false true cl ce m hq h1
  obtain ⟨n1, n2⟩ := hn
  have HP := _root_.Go.Lib.hid hp
  have CL := _root_.Go.Lib.hid hcl
  have CE := _root_.Go.Lib.hid hce
  have UP := _root_.Go.Lib.hid hup
  clear hp hq h1 hcl hce hup
  generalize hr : rA false cl ce = r at UP
  have HR := _root_.Go.Lib.hid hr
  clear hr
  have hz : ((m : Int) > 0) = True := by simp; omega
  have hmin : ((m : Int) ≤ 16) = False := by simp; omega
  go_enter Try.func5, Try.ntmps5
  go_wp2_with fail
  refine (alive_calls _).mono ?_
  rintro e w1 ⟨rfl, h1⟩
  have H1 := _root_.Go.Lib.hid h1
  clear h1
  go_wp2_with fail
  refine (new_u (B := w.heap.size) (W := w) [] H1.out H1.out.size (fun p hp => by cases hp)).mono ?_
  rintro e w2 ⟨rfl, h2⟩
  have H2 := _root_.Go.Lib.hid h2
  clear h2 H1
  go_wp2_with fail
  refine (set_u H2.out 12 lcr cl true _ (by decide) CL.out (by decide) (by kernel_rfl) (first_A cl)).mono ?_
  rintro e w3 ⟨rfl, h3⟩
  have H3 := _root_.Go.Lib.hid h3
  clear h3 H2
  go_wp2_with fail
  refine (set_u H3.out 4 en ce true _ (by decide) CE.out (by show (0 : Nat) ≤ 1000; decide) (by kernel_rfl) ((second_A false cl ce HP.out).trans (by rw [HR.out]))).mono ?_
  rintro e w4 ⟨rfl, h4⟩
  have H4 := _root_.Go.Lib.hid h4
  clear h4 H3
  go_wp2_with fail
  go_loopg [33] m (fun k i wr => ∃ j : Nat, j + k = m ∧ i = .int .i64 (j : Int) ∧ UW w.heap.size w1.heap.size (stA r j) w [] wr)
  case atStart => exact ⟨0, by omega, rfl, H4.out⟩
  case round =>
    obtain ⟨j, hj, rfl, hu⟩ := hrel
    have HU := _root_.Go.Lib.hid hu
    clear hu H4
    by_cases hjm : j < m
    · have hlt : ((j : Int) < m) = True := by simp; omega
      go_wp2_with fail
      refine (feed_u HU.out ⟨#[120]⟩ (stA r (j + 1)) (by simp [stA]; omega) (by decide) (feed_A r j)).mono ?_
      rintro e w5 ⟨rfl, h5⟩
      have H5 := _root_.Go.Lib.hid h5
      clear h5 HU
      go_wp2_with fail
      go_roundg (m - (j + 1))
      case measure => omega
      case rel => exact ⟨j + 1, by omega, by first | rfl | go_num, H5.out⟩
    · have hlt : ((j : Int) < m) = False := by simp; omega
      obtain rfl : j = m := by omega
      go_wp2_with fail
      refine (up_u HU.out false (UP.out.trans (by simp; try omega))).mono ?_
      rintro e w' ⟨rfl, rfl⟩
      go_wp2_with fail
      refine (set_u HU.out 12 0 0 true _ (by decide) (by kernel_rfl) (by show (0 : Nat) ≤ 1000; decide) (by kernel_rfl) (third_A r j)).mono ?_
      rintro e w6 ⟨rfl, h6⟩
      have H6 := _root_.Go.Lib.hid h6
      clear h6
      have H6' := _root_.Go.Lib.hid (show UW w.heap.size w1.heap.size (stB (upd r 3 0) (List.replicate (16 - 0) 120) (decide (16 < j))) w [] w6 from by have := H6.out; rwa [show min j 16 = 16 - 0 by omega] at this)
      clear H6
      generalize hov : decide (16 < j) = ov at H6'
      clear hov
      go_wp2_with fail
      go_loopg [53] 16 (fun k i wr => ∃ j2 : Nat, j2 + k = 16 ∧ i = .int .i64 (j2 : Int) ∧ UW w.heap.size w1.heap.size (stB (upd r 3 0) (List.replicate (16 - j2) 120) ov) w [] wr)
      case atStart => exact ⟨0, by omega, rfl, H6'.out⟩
      case round =>
        obtain ⟨j2, hj2, rfl, hu2⟩ := hrel
        have HV := _root_.Go.Lib.hid hu2
        clear hu2 H6'
        by_cases hj2m : j2 < 16
        · have hlt2 : ((j2 : Int) < (16 : Int)) = True := by simp; omega
          go_wp2_with fail
          refine (get_u HV.out 0 _ true _ (by decide) rfl (by kernel_rfl) (get_B r ov j2 16 hj2m)).mono ?_
          rintro e w7 ⟨rfl, h7⟩
          have H7 := _root_.Go.Lib.hid h7
          clear h7 HV
          go_wp2_with fail
          go_roundg (16 - (j2 + 1))
          case measure => omega
          case rel => exact ⟨j2 + 1, by omega, by first | rfl | go_num, H7.out⟩
        · have hlt2 : ((j2 : Int) < (16 : Int)) = False := by simp <;> omega
          have HW := _root_.Go.Lib.hid (show UW w.heap.size w1.heap.size (stB (upd r 3 0) [] ov) w [] wr from by have := HV.out; rwa [show 16 - j2 = 0 by omega] at this)
          clear HV
          go_wp2_with fail
          refine (up_u HW.out false (by show (_ && decide (0 < 0)) = false; simp)).mono ?_
          rintro e w' ⟨rfl, rfl⟩
          go_wp2_with fail
          refine (feed_u HW.out ⟨#[121]⟩ (stB (upd r 3 0) [121] ov) (by show (0 : Nat) ≤ 16; decide) (by decide) (by show stB (upd r 3 0) [121] (ov || decide (16 - 0 < 1)) = _; simp)).mono ?_
          rintro e w8 ⟨rfl, h8⟩
          have H8 := _root_.Go.Lib.hid h8
          clear h8
          go_wp2_with fail
          refine (set_u H8.out 4 1 1 true (stB (upd (upd r 3 0) 1 1) [121] ov) (by decide) (by kernel_rfl) (by show (0 : Nat) ≤ 1000; decide) (by kernel_rfl) (by kernel_rfl)).mono ?_
          rintro e w9 ⟨rfl, h9⟩
          have H9 := _root_.Go.Lib.hid h9
          clear h9 H8
          go_wp2_with fail
          refine (up_u H9.out true (by kernel_rfl)).mono ?_
          rintro e w' ⟨rfl, rfl⟩
          go_wp2_with fail
          refine (set_u H9.out 8 2 2 true (stB (upd (upd r 3 0) 1 1) [] ov) (by decide) (by kernel_rfl) (by show (0 : Nat) ≤ 1000; decide) (by kernel_rfl) (by kernel_rfl)).mono ?_
          rintro e w10 ⟨rfl, h10⟩
          have H10 := _root_.Go.Lib.hid h10
          clear h10 H9
          go_wp2_with fail
          refine (up_u H10.out false (by kernel_rfl)).mono ?_
          rintro e w' ⟨rfl, rfl⟩
          go_wp2_with fail
          go_ret
          exact ⟨rfl, H10.out.bel⟩
set_option maxRecDepth 100000 in
set_option maxHeartbeats 1000000 in
theorem asks_f_f_zero (n en lcr : Int) (m : Nat) (w : World) (cl ce : UInt8) (hn : 0 ≤ n ∧ n < 256) (hm : n.tmod 20 = (m : Int)) (hm20 : m < 20) (hmc : m = 0) (hcl : bits .and .u32 lcr 255 = (cl.toNat : Int)) (hce : bits .and .u32 en 255 = (ce.toNat : Int))
    (hP : (bits .and .u32 lcr 128 == 0) = false) (hQ : (bits .and .u32 en 1 == 1) = false) (hp : (bits .and .u32 (cl.toNat : Int) 128 == 0) = false) (hq : (bits .and .u32 (ce.toNat : Int) 1 == 1) = false) (h1 : bits .and .u32 (ce.toNat : Int) 1 = 0 ∨ bits .and .u32 (ce.toNat : Int) 1 = 1) :
    Calls Try.prog 5 #[.int .u8 n, .int .u32 en, .int .u32 lcr] w fun e w' => e = .returned (.bool true) ∧ Below w.heap.size w w' := by
  have hup := up_A false false cl ce m hq h1
  obtain ⟨n1, n2⟩ := hn
  have HP := _root_.Go.Lib.hid hp
  have CL := _root_.Go.Lib.hid hcl
  have CE := _root_.Go.Lib.hid hce
  have UP := _root_.Go.Lib.hid hup
  clear hp hq h1 hcl hce hup
  generalize hr : rA false cl ce = r at UP
  have HR := _root_.Go.Lib.hid hr
  clear hr
  subst hmc
  go_enter Try.func5, Try.ntmps5
  go_wp2_with fail
  refine (alive_calls _).mono ?_
  rintro e w1 ⟨rfl, h1⟩
  have H1 := _root_.Go.Lib.hid h1
  clear h1
  go_wp2_with fail
  refine (new_u (B := w.heap.size) (W := w) [] H1.out H1.out.size (fun p hp => by cases hp)).mono ?_
  rintro e w2 ⟨rfl, h2⟩
  have H2 := _root_.Go.Lib.hid h2
  clear h2 H1
  go_wp2_with fail
  refine (set_u H2.out 12 lcr cl true _ (by decide) CL.out (by decide) (by kernel_rfl) (first_A cl)).mono ?_
  rintro e w3 ⟨rfl, h3⟩
  have H3 := _root_.Go.Lib.hid h3
  clear h3 H2
  go_wp2_with fail
  refine (set_u H3.out 4 en ce true _ (by decide) CE.out (by show (0 : Nat) ≤ 1000; decide) (by kernel_rfl) ((second_A false cl ce HP.out).trans (by rw [HR.out]))).mono ?_
  rintro e w4 ⟨rfl, h4⟩
  have H4 := _root_.Go.Lib.hid h4
  clear h4 H3
  go_wp2_with fail
  go_loopg [33] 0 (fun k i wr => i = .int .i64 0 ∧ UW w.heap.size w1.heap.size (stA r 0) w [] wr)
  case atStart => exact ⟨rfl, H4.out⟩
  case round =>
    obtain ⟨rfl, hu⟩ := hrel
    have HU := _root_.Go.Lib.hid hu
    clear hu H4
    go_wp2_with fail
    refine (up_u HU.out false (UP.out.trans (by simp))).mono ?_
    rintro e w' ⟨rfl, rfl⟩
    go_wp2_with fail
    refine (set_u HU.out 12 0 0 true _ (by decide) (by kernel_rfl) (by show (0 : Nat) ≤ 1000; decide) (by kernel_rfl) (third_A r 0)).mono ?_
    rintro e w6 ⟨rfl, h6⟩
    have H6 := _root_.Go.Lib.hid h6
    clear h6
    have H6' := _root_.Go.Lib.hid (show UW w.heap.size w1.heap.size (stB (upd r 3 0) (List.replicate (0 - 0) 120) (decide (16 < 0))) w [] w6 from by have := H6.out; rwa [show min 0 16 = 0 - 0 by omega] at this)
    clear H6
    generalize hov : decide (16 < 0) = ov at H6'
    clear hov
    go_wp2_with fail
    go_loopg [53] 0 (fun k i wr => ∃ j2 : Nat, j2 + k = 0 ∧ i = .int .i64 (j2 : Int) ∧ UW w.heap.size w1.heap.size (stB (upd r 3 0) (List.replicate (0 - j2) 120) ov) w [] wr)
    case atStart => exact ⟨0, by omega, rfl, H6'.out⟩
    case round =>
      obtain ⟨j2, hj2, rfl, hu2⟩ := hrel
      have HV := _root_.Go.Lib.hid hu2
      clear hu2 H6'
      by_cases hj2m : j2 < 0
      · have hlt2 : ((j2 : Int) < (0 : Int)) = True := by simp; omega
        go_wp2_with fail
        refine (get_u HV.out 0 _ true _ (by decide) rfl (by kernel_rfl) (get_B r ov j2 0 hj2m)).mono ?_
        rintro e w7 ⟨rfl, h7⟩
        have H7 := _root_.Go.Lib.hid h7
        clear h7 HV
        go_wp2_with fail
        go_roundg (0 - (j2 + 1))
        case measure => omega
        case rel => exact ⟨j2 + 1, by omega, by first | rfl | go_num, H7.out⟩
      · have hlt2 : ((j2 : Int) < (0 : Int)) = False := by simp <;> omega
        have HW := _root_.Go.Lib.hid (show UW w.heap.size w1.heap.size (stB (upd r 3 0) [] ov) w [] wr from by have := HV.out; rwa [show 0 - j2 = 0 by omega] at this)
        clear HV
        go_wp2_with fail
        refine (up_u HW.out false (by show (_ && decide (0 < 0)) = false; simp)).mono ?_
        rintro e w' ⟨rfl, rfl⟩
        go_wp2_with fail
        refine (feed_u HW.out ⟨#[121]⟩ (stB (upd r 3 0) [121] ov) (by show (0 : Nat) ≤ 16; decide) (by decide) (by show stB (upd r 3 0) [121] (ov || decide (16 - 0 < 1)) = _; simp)).mono ?_
        rintro e w8 ⟨rfl, h8⟩
        have H8 := _root_.Go.Lib.hid h8
        clear h8
        go_wp2_with fail
        refine (set_u H8.out 4 1 1 true (stB (upd (upd r 3 0) 1 1) [121] ov) (by decide) (by kernel_rfl) (by show (0 : Nat) ≤ 1000; decide) (by kernel_rfl) (by kernel_rfl)).mono ?_
        rintro e w9 ⟨rfl, h9⟩
        have H9 := _root_.Go.Lib.hid h9
        clear h9 H8
        go_wp2_with fail
        refine (up_u H9.out true (by kernel_rfl)).mono ?_
        rintro e w' ⟨rfl, rfl⟩
        go_wp2_with fail
        refine (set_u H9.out 8 2 2 true (stB (upd (upd r 3 0) 1 1) [] ov) (by decide) (by kernel_rfl) (by show (0 : Nat) ≤ 1000; decide) (by kernel_rfl) (by kernel_rfl)).mono ?_
        rintro e w10 ⟨rfl, h10⟩
        have H10 := _root_.Go.Lib.hid h10
        clear h10 H9
        go_wp2_with fail
        refine (up_u H10.out false (by kernel_rfl)).mono ?_
        rintro e w' ⟨rfl, rfl⟩
        go_wp2_with fail
        go_ret
        exact ⟨rfl, H10.out.bel⟩
set_option maxRecDepth 100000 in
set_option maxHeartbeats 1000000 in
theorem asks_f_f_some (n en lcr : Int) (m : Nat) (w : World) (cl ce : UInt8) (hn : 0 ≤ n ∧ n < 256) (hm : n.tmod 20 = (m : Int)) (hm20 : m < 20) (hmc : 0 < m ∧ m ≤ 16) (hcl : bits .and .u32 lcr 255 = (cl.toNat : Int)) (hce : bits .and .u32 en 255 = (ce.toNat : Int))
    (hP : (bits .and .u32 lcr 128 == 0) = false) (hQ : (bits .and .u32 en 1 == 1) = false) (hp : (bits .and .u32 (cl.toNat : Int) 128 == 0) = false) (hq : (bits .and .u32 (ce.toNat : Int) 1 == 1) = false) (h1 : bits .and .u32 (ce.toNat : Int) 1 = 0 ∨ bits .and .u32 (ce.toNat : Int) 1 = 1) :
    Calls Try.prog 5 #[.int .u8 n, .int .u32 en, .int .u32 lcr] w fun e w' => e = .returned (.bool true) ∧ Below w.heap.size w w' := by
  have hup := up_A false false cl ce m hq h1
  obtain ⟨n1, n2⟩ := hn
  have HP := _root_.Go.Lib.hid hp
  have CL := _root_.Go.Lib.hid hcl
  have CE := _root_.Go.Lib.hid hce
  have UP := _root_.Go.Lib.hid hup
  clear hp hq h1 hcl hce hup
  generalize hr : rA false cl ce = r at UP
  have HR := _root_.Go.Lib.hid hr
  clear hr
  obtain ⟨hm1, hm2⟩ := hmc
  have hz : ((m : Int) > 0) = True := by simp; omega
  have hmin : ((m : Int) ≤ 16) = True := by simp; omega
  go_enter Try.func5, Try.ntmps5
  go_wp2_with fail
  refine (alive_calls _).mono ?_
  rintro e w1 ⟨rfl, h1⟩
  have H1 := _root_.Go.Lib.hid h1
  clear h1
  go_wp2_with fail
  refine (new_u (B := w.heap.size) (W := w) [] H1.out H1.out.size (fun p hp => by cases hp)).mono ?_
  rintro e w2 ⟨rfl, h2⟩
  have H2 := _root_.Go.Lib.hid h2
  clear h2 H1
  go_wp2_with fail
  refine (set_u H2.out 12 lcr cl true _ (by decide) CL.out (by decide) (by kernel_rfl) (first_A cl)).mono ?_
  rintro e w3 ⟨rfl, h3⟩
  have H3 := _root_.Go.Lib.hid h3
  clear h3 H2
  go_wp2_with fail
  refine (set_u H3.out 4 en ce true _ (by decide) CE.out (by show (0 : Nat) ≤ 1000; decide) (by kernel_rfl) ((second_A false cl ce HP.out).trans (by rw [HR.out]))).mono ?_
  rintro e w4 ⟨rfl, h4⟩
  have H4 := _root_.Go.Lib.hid h4
  clear h4 H3
  go_wp2_with fail
  go_loopg [33] m (fun k i wr => ∃ j : Nat, j + k = m ∧ i = .int .i64 (j : Int) ∧ UW w.heap.size w1.heap.size (stA r j) w [] wr)
  case atStart => exact ⟨0, by omega, rfl, H4.out⟩
  case round =>
    obtain ⟨j, hj, rfl, hu⟩ := hrel
    have HU := _root_.Go.Lib.hid hu
    clear hu H4
    by_cases hjm : j < m
    · have hlt : ((j : Int) < m) = True := by simp; omega
      go_wp2_with fail
      refine (feed_u HU.out ⟨#[120]⟩ (stA r (j + 1)) (by simp [stA]; omega) (by decide) (feed_A r j)).mono ?_
      rintro e w5 ⟨rfl, h5⟩
      have H5 := _root_.Go.Lib.hid h5
      clear h5 HU
      go_wp2_with fail
      go_roundg (m - (j + 1))
      case measure => omega
      case rel => exact ⟨j + 1, by omega, by first | rfl | go_num, H5.out⟩
    · have hlt : ((j : Int) < m) = False := by simp; omega
      obtain rfl : j = m := by omega
      go_wp2_with fail
      refine (up_u HU.out false (UP.out.trans (by simp; try omega))).mono ?_
      rintro e w' ⟨rfl, rfl⟩
      go_wp2_with fail
      refine (set_u HU.out 12 0 0 true _ (by decide) (by kernel_rfl) (by show (0 : Nat) ≤ 1000; decide) (by kernel_rfl) (third_A r j)).mono ?_
      rintro e w6 ⟨rfl, h6⟩
      have H6 := _root_.Go.Lib.hid h6
      clear h6
      have H6' := _root_.Go.Lib.hid (show UW w.heap.size w1.heap.size (stB (upd r 3 0) (List.replicate (j - 0) 120) (decide (16 < j))) w [] w6 from by have := H6.out; rwa [show min j 16 = j - 0 by omega] at this)
      clear H6
      generalize hov : decide (16 < j) = ov at H6'
      clear hov
      go_wp2_with fail
      go_loopg [53] j (fun k i wr => ∃ j2 : Nat, j2 + k = j ∧ i = .int .i64 (j2 : Int) ∧ UW w.heap.size w1.heap.size (stB (upd r 3 0) (List.replicate (j - j2) 120) ov) w [] wr)
      case atStart => exact ⟨0, by omega, rfl, H6'.out⟩
      case round =>
        obtain ⟨j2, hj2, rfl, hu2⟩ := hrel
        have HV := _root_.Go.Lib.hid hu2
        clear hu2 H6'
        by_cases hj2m : j2 < j
        · have hlt2 : ((j2 : Int) < (j : Int)) = True := by simp; omega
          go_wp2_with fail
          refine (get_u HV.out 0 _ true _ (by decide) rfl (by kernel_rfl) (get_B r ov j2 j hj2m)).mono ?_
          rintro e w7 ⟨rfl, h7⟩
          have H7 := _root_.Go.Lib.hid h7
          clear h7 HV
          go_wp2_with fail
          go_roundg (j - (j2 + 1))
          case measure => omega
          case rel => exact ⟨j2 + 1, by omega, by first | rfl | go_num, H7.out⟩
        · have hlt2 : ((j2 : Int) < (j : Int)) = False := by simp <;> omega
          have HW := _root_.Go.Lib.hid (show UW w.heap.size w1.heap.size (stB (upd r 3 0) [] ov) w [] wr from by have := HV.out; rwa [show j - j2 = 0 by omega] at this)
          clear HV
          go_wp2_with fail
          refine (up_u HW.out false (by show (_ && decide (0 < 0)) = false; simp)).mono ?_
          rintro e w' ⟨rfl, rfl⟩
          go_wp2_with fail
          refine (feed_u HW.out ⟨#[121]⟩ (stB (upd r 3 0) [121] ov) (by show (0 : Nat) ≤ 16; decide) (by decide) (by show stB (upd r 3 0) [121] (ov || decide (16 - 0 < 1)) = _; simp)).mono ?_
          rintro e w8 ⟨rfl, h8⟩
          have H8 := _root_.Go.Lib.hid h8
          clear h8
          go_wp2_with fail
          refine (set_u H8.out 4 1 1 true (stB (upd (upd r 3 0) 1 1) [121] ov) (by decide) (by kernel_rfl) (by show (0 : Nat) ≤ 1000; decide) (by kernel_rfl) (by kernel_rfl)).mono ?_
          rintro e w9 ⟨rfl, h9⟩
          have H9 := _root_.Go.Lib.hid h9
          clear h9 H8
          go_wp2_with fail
          refine (up_u H9.out true (by kernel_rfl)).mono ?_
          rintro e w' ⟨rfl, rfl⟩
          go_wp2_with fail
          refine (set_u H9.out 8 2 2 true (stB (upd (upd r 3 0) 1 1) [] ov) (by decide) (by kernel_rfl) (by show (0 : Nat) ≤ 1000; decide) (by kernel_rfl) (by kernel_rfl)).mono ?_
          rintro e w10 ⟨rfl, h10⟩
          have H10 := _root_.Go.Lib.hid h10
          clear h10 H9
          go_wp2_with fail
          refine (up_u H10.out false (by kernel_rfl)).mono ?_
          rintro e w' ⟨rfl, rfl⟩
          go_wp2_with fail
          go_ret
          exact ⟨rfl, H10.out.bel⟩
set_option maxRecDepth 100000 in
set_option maxHeartbeats 1000000 in
theorem asks_f_f_many (n en lcr : Int) (m : Nat) (w : World) (cl ce : UInt8) (hn : 0 ≤ n ∧ n < 256) (hm : n.tmod 20 = (m : Int)) (hm20 : m < 20) (hmc : 16 < m) (hcl : bits .and .u32 lcr 255 = (cl.toNat : Int)) (hce : bits .and .u32 en 255 = (ce.toNat : Int))
    (hP : (bits .and .u32 lcr 128 == 0) = false) (hQ : (bits .and .u32 en 1 == 1) = false) (hp : (bits .and .u32 (cl.toNat : Int) 128 == 0) = false) (hq : (bits .and .u32 (ce.toNat : Int) 1 == 1) = false) (h1 : bits .and .u32 (ce.toNat : Int) 1 = 0 ∨ bits .and .u32 (ce.toNat : Int) 1 = 1) :
    Calls Try.prog 5 #[.int .u8 n, .int .u32 en, .int .u32 lcr] w fun e w' => e = .returned (.bool true) ∧ Below w.heap.size w w' := by
  have hup := up_A false false cl ce m hq h1
  obtain ⟨n1, n2⟩ := hn
  have HP := _root_.Go.Lib.hid hp
  have CL := _root_.Go.Lib.hid hcl
  have CE := _root_.Go.Lib.hid hce
  have UP := _root_.Go.Lib.hid hup
  clear hp hq h1 hcl hce hup
  generalize hr : rA false cl ce = r at UP
  have HR := _root_.Go.Lib.hid hr
  clear hr
  have hz : ((m : Int) > 0) = True := by simp; omega
  have hmin : ((m : Int) ≤ 16) = False := by simp; omega
  go_enter Try.func5, Try.ntmps5
  go_wp2_with fail
  refine (alive_calls _).mono ?_
  rintro e w1 ⟨rfl, h1⟩
  have H1 := _root_.Go.Lib.hid h1
  clear h1
  go_wp2_with fail
  refine (new_u (B := w.heap.size) (W := w) [] H1.out H1.out.size (fun p hp => by cases hp)).mono ?_
  rintro e w2 ⟨rfl, h2⟩
  have H2 := _root_.Go.Lib.hid h2
  clear h2 H1
  go_wp2_with fail
  refine (set_u H2.out 12 lcr cl true _ (by decide) CL.out (by decide) (by kernel_rfl) (first_A cl)).mono ?_
  rintro e w3 ⟨rfl, h3⟩
  have H3 := _root_.Go.Lib.hid h3
  clear h3 H2
  go_wp2_with fail
  refine (set_u H3.out 4 en ce true _ (by decide) CE.out (by show (0 : Nat) ≤ 1000; decide) (by kernel_rfl) ((second_A false cl ce HP.out).trans (by rw [HR.out]))).mono ?_
  rintro e w4 ⟨rfl, h4⟩
  have H4 := _root_.Go.Lib.hid h4
  clear h4 H3
  go_wp2_with fail
  go_loopg [33] m (fun k i wr => ∃ j : Nat, j + k = m ∧ i = .int .i64 (j : Int) ∧ UW w.heap.size w1.heap.size (stA r j) w [] wr)
  case atStart => exact ⟨0, by omega, rfl, H4.out⟩
  case round =>
    obtain ⟨j, hj, rfl, hu⟩ := hrel
    have HU := _root_.Go.Lib.hid hu
    clear hu H4
    by_cases hjm : j < m
    · have hlt : ((j : Int) < m) = True := by simp; omega
      go_wp2_with fail
      refine (feed_u HU.out ⟨#[120]⟩ (stA r (j + 1)) (by simp [stA]; omega) (by decide) (feed_A r j)).mono ?_
      rintro e w5 ⟨rfl, h5⟩
      have H5 := _root_.Go.Lib.hid h5
      clear h5 HU
      go_wp2_with fail
      go_roundg (m - (j + 1))
      case measure => omega
      case rel => exact ⟨j + 1, by omega, by first | rfl | go_num, H5.out⟩
    · have hlt : ((j : Int) < m) = False := by simp; omega
      obtain rfl : j = m := by omega
      go_wp2_with fail
      refine (up_u HU.out false (UP.out.trans (by simp; try omega))).mono ?_
      rintro e w' ⟨rfl, rfl⟩
      go_wp2_with fail
      refine (set_u HU.out 12 0 0 true _ (by decide) (by kernel_rfl) (by show (0 : Nat) ≤ 1000; decide) (by kernel_rfl) (third_A r j)).mono ?_
      rintro e w6 ⟨rfl, h6⟩
      have H6 := _root_.Go.Lib.hid h6
      clear h6
      have H6' := _root_.Go.Lib.hid (show UW w.heap.size w1.heap.size (stB (upd r 3 0) (List.replicate (16 - 0) 120) (decide (16 < j))) w [] w6 from by have := H6.out; rwa [show min j 16 = 16 - 0 by omega] at this)
      clear H6
      generalize hov : decide (16 < j) = ov at H6'
      clear hov
      go_wp2_with fail
      go_loopg [53] 16 (fun k i wr => ∃ j2 : Nat, j2 + k = 16 ∧ i = .int .i64 (j2 : Int) ∧ UW w.heap.size w1.heap.size (stB (upd r 3 0) (List.replicate (16 - j2) 120) ov) w [] wr)
      case atStart => exact ⟨0, by omega, rfl, H6'.out⟩
      case round =>
        obtain ⟨j2, hj2, rfl, hu2⟩ := hrel
        have HV := _root_.Go.Lib.hid hu2
        clear hu2 H6'
        by_cases hj2m : j2 < 16
        · have hlt2 : ((j2 : Int) < (16 : Int)) = True := by simp; omega
          go_wp2_with fail
          refine (get_u HV.out 0 _ true _ (by decide) rfl (by kernel_rfl) (get_B r ov j2 16 hj2m)).mono ?_
          rintro e w7 ⟨rfl, h7⟩
          have H7 := _root_.Go.Lib.hid h7
          clear h7 HV
          go_wp2_with fail
          go_roundg (16 - (j2 + 1))
          case measure => omega
          case rel => exact ⟨j2 + 1, by omega, by first | rfl | go_num, H7.out⟩
        · have hlt2 : ((j2 : Int) < (16 : Int)) = False := by simp <;> omega
          have HW := _root_.Go.Lib.hid (show UW w.heap.size w1.heap.size (stB (upd r 3 0) [] ov) w [] wr from by have := HV.out; rwa [show 16 - j2 = 0 by omega] at this)
          clear HV
          go_wp2_with fail
          refine (up_u HW.out false (by show (_ && decide (0 < 0)) = false; simp)).mono ?_
          rintro e w' ⟨rfl, rfl⟩
          go_wp2_with fail
          refine (feed_u HW.out ⟨#[121]⟩ (stB (upd r 3 0) [121] ov) (by show (0 : Nat) ≤ 16; decide) (by decide) (by show stB (upd r 3 0) [121] (ov || decide (16 - 0 < 1)) = _; simp)).mono ?_
          rintro e w8 ⟨rfl, h8⟩
          have H8 := _root_.Go.Lib.hid h8
          clear h8
          go_wp2_with fail
          refine (set_u H8.out 4 1 1 true (stB (upd (upd r 3 0) 1 1) [121] ov) (by decide) (by kernel_rfl) (by show (0 : Nat) ≤ 1000; decide) (by kernel_rfl) (by kernel_rfl)).mono ?_
          rintro e w9 ⟨rfl, h9⟩
          have H9 := _root_.Go.Lib.hid h9
          clear h9 H8
          go_wp2_with fail
          refine (up_u H9.out true (by kernel_rfl)).mono ?_
          rintro e w' ⟨rfl, rfl⟩
          go_wp2_with fail
          refine (set_u H9.out 8 2 2 true (stB (upd (upd r 3 0) 1 1) [] ov) (by decide) (by kernel_rfl) (by show (0 : Nat) ≤ 1000; decide) (by kernel_rfl) (by kernel_rfl)).mono ?_
          rintro e w10 ⟨rfl, h10⟩
          have H10 := _root_.Go.Lib.hid h10
          clear h10 H9
          go_wp2_with fail
          refine (up_u H10.out false (by kernel_rfl)).mono ?_
          rintro e w' ⟨rfl, rfl⟩
          go_wp2_with fail
          go_ret
          exact ⟨rfl, H10.out.bel⟩

theorem asks_calls (n en lcr : Int) (w : World) (hn : 0 ≤ n ∧ n < 256) (he : 0 ≤ en ∧ en < 4294967296) (hl : 0 ≤ lcr ∧ lcr < 4294967296) :
    Calls Try.prog 5 #[.int .u8 n, .int .u32 en, .int .u32 lcr] w fun e w' => e = .returned (.bool true) ∧ Below w.heap.size w w' := by
  have c1 := low_and lcr hl
  have c2 := low_and en he
  have hp := low_128 lcr hl
  have hq := low_1 en he
  have h1 : bits .and .u32 ((low en).toNat : Int) 1 = 0 ∨ bits .and .u32 ((low en).toNat : Int) 1 = 1 := by rw [hq, and_1 en he]; omega
  have hm : n.tmod 20 = ((n.toNat % 20 : Nat) : Int) := by rw [Int.tmod_eq_emod_of_nonneg hn.1]; omega
  have hm2 : n.toNat % 20 < 20 := Nat.mod_lt _ (by decide)
  rcases Nat.lt_or_ge 16 (n.toNat % 20) with a | a
  rotate_left
  rcases Nat.eq_zero_or_pos (n.toNat % 20) with b | b
  rotate_left 2
  · cases hP : (bits .and .u32 lcr 128 == 0) <;> cases hQ : (bits .and .u32 en 1 == 1)
    · exact asks_f_f_many n en lcr _ w _ _ hn hm hm2 a c1 c2 hP hQ (by rw [hp]; exact hP) (by rw [hq]; exact hQ) h1
    · exact asks_f_t_many n en lcr _ w _ _ hn hm hm2 a c1 c2 hP hQ (by rw [hp]; exact hP) (by rw [hq]; exact hQ) h1
    · exact asks_t_f_many n en lcr _ w _ _ hn hm hm2 a c1 c2 hP hQ (by rw [hp]; exact hP) (by rw [hq]; exact hQ) h1
    · exact asks_t_t_many n en lcr _ w _ _ hn hm hm2 a c1 c2 hP hQ (by rw [hp]; exact hP) (by rw [hq]; exact hQ) h1
  · cases hP : (bits .and .u32 lcr 128 == 0) <;> cases hQ : (bits .and .u32 en 1 == 1)
    · exact asks_f_f_zero n en lcr _ w _ _ hn hm hm2 b c1 c2 hP hQ (by rw [hp]; exact hP) (by rw [hq]; exact hQ) h1
    · exact asks_f_t_zero n en lcr _ w _ _ hn hm hm2 b c1 c2 hP hQ (by rw [hp]; exact hP) (by rw [hq]; exact hQ) h1
    · exact asks_t_f_zero n en lcr _ w _ _ hn hm hm2 b c1 c2 hP hQ (by rw [hp]; exact hP) (by rw [hq]; exact hQ) h1
    · exact asks_t_t_zero n en lcr _ w _ _ hn hm hm2 b c1 c2 hP hQ (by rw [hp]; exact hP) (by rw [hq]; exact hQ) h1
  · cases hP : (bits .and .u32 lcr 128 == 0) <;> cases hQ : (bits .and .u32 en 1 == 1)
    · exact asks_f_f_some n en lcr _ w _ _ hn hm hm2 ⟨b, a⟩ c1 c2 hP hQ (by rw [hp]; exact hP) (by rw [hq]; exact hQ) h1
    · exact asks_f_t_some n en lcr _ w _ _ hn hm hm2 ⟨b, a⟩ c1 c2 hP hQ (by rw [hp]; exact hP) (by rw [hq]; exact hQ) h1
    · exact asks_t_f_some n en lcr _ w _ _ hn hm hm2 ⟨b, a⟩ c1 c2 hP hQ (by rw [hp]; exact hP) (by rw [hq]; exact hQ) h1
    · exact asks_t_t_some n en lcr _ w _ _ hn hm hm2 ⟨b, a⟩ c1 c2 hP hQ (by rw [hp]; exact hP) (by rw [hq]; exact hQ) h1
end Go.Proofs.Ytjaldngafappdaa
