/-
  Both halves of time, and of the limit, are set apart; time that goes on carries over.
-/
import Derived.Test.YtogepklmmehbjaaDoorAlive
import Derived.Deep.LoopGhost
set_option linter.unusedVariables false
set_option linter.unusedSimpArgs false
namespace Go.Proofs.YtogepklmmehbjaaDoor
open Go.RowKit Go.Lib

abbrev hL (a b : Int) : Int := b * 4294967296 + a
def hS (a b : Int) : Nat → Ck
  | 0 => ck0
  | 1 => ⟨0, hL a b, false⟩
  | _ => ⟨hL a b, hL a b, false⟩
theorem hS_ok (a b : Int) (ha : 0 ≤ a ∧ a < 4294967296) (hb : 0 ≤ b ∧ b < 4294967296) (j : Nat) : (hS a b j).ok := by
  match j with
  | 0 => exact ck0_ok
  | 1 => exact ⟨by show 0 ≤ (0 : Int) ∧ (0 : Int) < 18446744073709551616; omega, by show 0 ≤ hL a b ∧ hL a b < 18446744073709551616; unfold hL; omega⟩
  | k + 2 => exact ⟨by show 0 ≤ hL a b ∧ hL a b < 18446744073709551616; unfold hL; omega, by show 0 ≤ hL a b ∧ hL a b < 18446744073709551616; unfold hL; omega⟩
theorem hS_0 (a b : Int) (ha : 0 ≤ a ∧ a < 4294967296) (hb : 0 ≤ b ∧ b < 4294967296) : cSet (cSet (hS a b 0) 16388 b) 16384 a = hS a b 1 := by
  have e : (4294967295 + b * 4294967296) / 4294967296 * 4294967296 + a = b * 4294967296 + a := by omega
  simp [cSet, hS, ck0, hL] <;> omega
theorem hS_1 (a b : Int) (ha : 0 ≤ a ∧ a < 4294967296) (hb : 0 ≤ b ∧ b < 4294967296) : cSet (cSet (hS a b 1) 49148 b) 49144 a = hS a b 2 := by
  simp [cSet, hS, hL] <;> omega
abbrev sO : Obj := .cells #[.int .u32 16384, .int .u32 49144] 27

set_option maxRecDepth 100000 in
set_option maxHeartbeats 2000000 in
theorem halves_raw (a b n t : Int) (w : World) (hT : Tab w) (ha : 0 ≤ a ∧ a < 4294967296) (hb : 0 ≤ b ∧ b < 4294967296) (hn : 0 ≤ n ∧ n < 4294967296) (ht : (hL a b + n) % 18446744073709551616 = t) (r : Bool) (hr : decide (hL a b ≤ t) = r) :
    Calls Tryd.prog 8 #[.int .u32 a, .int .u32 b, .int .u32 n] w fun e w' => e = .returned (.bool true) ∧ Below w.heap.size w w' := by
  have HT := _root_.Go.Lib.hid hT
  have HA := _root_.Go.Lib.hid ha
  have HB := _root_.Go.Lib.hid hb
  have HN := _root_.Go.Lib.hid hn
  have HTT := _root_.Go.Lib.hid ht
  have HR := _root_.Go.Lib.hid hr
  obtain ⟨a1, a2⟩ := ha
  obtain ⟨b1, b2⟩ := hb
  obtain ⟨n1, n2⟩ := hn
  clear hT ht hr
  go_enter Tryd.func8, Tryd.ntmps8
  go_wp2_with fail
  refine (alive_calls _ HT.out).mono ?_
  rintro e w1 ⟨rfl, h1⟩
  have H1 := _root_.Go.Lib.hid h1
  clear h1
  go_wp2_with fail
  refine (new_k (KW.start H1.out H1.out.size)).mono ?_
  rintro e w2 ⟨rfl, h2⟩
  have H2 := _root_.Go.Lib.hid (h2.push sO).swap
  clear h2 H1
  go_wp2_with fail
  go_loopg [27] 2 (fun k i wr => ∃ j : Nat, j + k = 2 ∧ i = .int .i64 (j : Int) ∧ KW w.heap.size w [(w1.heap.size, (hS a b j).o), (w2.heap.size, sO)] wr)
  case atStart => exact ⟨0, by omega, rfl, H2.out⟩
  case round =>
    obtain ⟨j, hj, rfl, hu⟩ := hrel
    have HU := _root_.Go.Lib.hid hu
    clear hu H2
    match j, hj with
    | 0, hj =>
      have g1 : wr.cell? ⟨w2.heap.size, 0, none⟩ = some (.int .u32 16384) := cell_at (HU.out.get (g := w2.heap.size) (o := sO) (by simp)) 0
      go_wp2_with fail
      refine (set_k HU.out (hS_ok a b HA.out HB.out 0) 16388 b true _ (by decide) HB.out (by kernel_rfl) rfl).mono ?_
      rintro e w3 ⟨rfl, h3⟩
      have H3 := _root_.Go.Lib.hid h3
      clear h3 HU g1
      go_wp2_with fail
      refine (set_k H3.out ((hS_ok a b HA.out HB.out 0).set _ _ HB.out) 16384 a true _ (by decide) HA.out (by kernel_rfl) (hS_0 a b HA.out HB.out)).mono ?_
      rintro e w4 ⟨rfl, h4⟩
      have H4 := _root_.Go.Lib.hid h4
      clear h4 H3
      go_wp2_with fail
      refine (get_k H4.out (hS_ok a b HA.out HB.out 1) 16384 a true (by decide) (by have := HA.out; simp [cGet, hS, hL]; omega) (by kernel_rfl)).mono ?_
      rintro e w5 ⟨rfl, rfl⟩
      go_wp2_with fail
      refine (get_k H4.out (hS_ok a b HA.out HB.out 1) 16388 b true (by decide) (by have := HA.out; simp [cGet, hS, hL]; omega) (by kernel_rfl)).mono ?_
      rintro e w5 ⟨rfl, rfl⟩
      go_wp2_with fail
      go_roundg 1
      case measure => omega
      case rel => exact ⟨1, by omega, rfl, H4.out⟩
    | 1, hj =>
      have g1 : wr.cell? ⟨w2.heap.size, 1, none⟩ = some (.int .u32 49144) := cell_at (HU.out.get (g := w2.heap.size) (o := sO) (by simp)) 1
      go_wp2_with fail
      refine (set_k HU.out (hS_ok a b HA.out HB.out 1) 49148 b true _ (by decide) HB.out (by kernel_rfl) rfl).mono ?_
      rintro e w3 ⟨rfl, h3⟩
      have H3 := _root_.Go.Lib.hid h3
      clear h3 HU g1
      go_wp2_with fail
      refine (set_k H3.out ((hS_ok a b HA.out HB.out 1).set _ _ HB.out) 49144 a true _ (by decide) HA.out (by kernel_rfl) (hS_1 a b HA.out HB.out)).mono ?_
      rintro e w4 ⟨rfl, h4⟩
      have H4 := _root_.Go.Lib.hid h4
      clear h4 H3
      go_wp2_with fail
      refine (get_k H4.out (hS_ok a b HA.out HB.out 2) 49144 a true (by decide) (by have := HA.out; simp [cGet, hS, hL]; omega) (by kernel_rfl)).mono ?_
      rintro e w5 ⟨rfl, rfl⟩
      go_wp2_with fail
      refine (get_k H4.out (hS_ok a b HA.out HB.out 2) 49148 b true (by decide) (by have := HA.out; simp [cGet, hS, hL]; omega) (by kernel_rfl)).mono ?_
      rintro e w5 ⟨rfl, rfl⟩
      go_wp2_with fail
      go_roundg 0
      case measure => omega
      case rel => exact ⟨2, by omega, rfl, H4.out⟩
    | m + 3, hj => omega
    | 2, hj =>
      go_wp2_with fail
      refine (tick_k HU.out n).mono ?_
      rintro e w3 ⟨rfl, h3⟩
      have hc : cTick (hS a b 2) n = ⟨t, hL a b, false⟩ := by rw [← HTT.out]; rfl
      rw [hc] at h3
      have ok3 : (⟨t, hL a b, false⟩ : Ck).ok := by rw [← hc]; exact (hS_ok a b HA.out HB.out 2).tick n
      have H3 := _root_.Go.Lib.hid h3
      have OK := _root_.Go.Lib.hid ok3
      obtain ⟨x, hx⟩ : ∃ x, t % 4294967296 = x := ⟨_, rfl⟩
      obtain ⟨y, hy⟩ : ∃ y, t / 4294967296 = y := ⟨_, rfl⟩
      have tr := ok3.t
      simp only at tr
      have x1 : 0 ≤ x := by omega
      have x2 : x < 4294967296 := by omega
      have y1 : 0 ≤ y := by omega
      have y2 : y < 4294967296 := by omega
      have hor : bits .or .u64 (y * 4294967296) x = t := by
        have h1 := low_set (y * 4294967296) x (by omega) (by omega)
        have h2 : bits .andNot .u64 (y * 4294967296) 4294967295 = y * 4294967296 := by
          have h3 := low_set (y * 4294967296) 0 (by omega) (by omega)
          obtain ⟨z, hz⟩ := U_of (y * 4294967296) (by omega)
          rw [hz] at h3 ⊢
          have e1 : bits .andNot .u64 (U z) 4294967295 = U (z &&& ~~~4294967295#64) := andNot_U z 4294967295#64
          have e2 : bits .or .u64 (U (z &&& ~~~4294967295#64)) 0 = U ((z &&& ~~~4294967295#64) ||| 0#64) := or_U _ 0#64
          rw [e1, e2, BitVec.or_zero] at h3
          rw [e1, h3, ← hz]
          omega
        rw [h2] at h1
        rw [h1]
        omega
      have HX := _root_.Go.Lib.hid hx
      have HY := _root_.Go.Lib.hid hy
      have HO := _root_.Go.Lib.hid hor
      clear h3 HU hc ok3 hx hy tr hor
      go_wp2_with fail
      refine (get_k H3.out OK.out 49144 x true (by decide) HX.out (by kernel_rfl)).mono ?_
      rintro e w5 ⟨rfl, rfl⟩
      go_wp2_with fail
      refine (get_k H3.out OK.out 49148 y true (by decide) HY.out (by kernel_rfl)).mono ?_
      rintro e w5 ⟨rfl, rfl⟩
      have hor := HO.out
      have hwrap : IntKind.u64.wrap (b * 4294967296 + a + n) = t := by rw [IntKind.wrap_u64]; exact HTT.out
      cases r with
      | true =>
        have hle : b * 4294967296 + a ≤ t := of_decide_eq_true HR.out
        go_wp2_with fail
        refine (lines_k H3.out 128 (by unfold cLn lnV; simp [hle])).mono ?_
        rintro e w6 ⟨rfl, rfl⟩
        have H6 := _root_.Go.Lib.hid H3.out.drew
        clear H3
        go_wp2_with fail
        go_ret
        exact ⟨rfl, H6.out.bel⟩
      | false =>
        have hle : ¬ b * 4294967296 + a ≤ t := of_decide_eq_false HR.out
        have hdec : decide (b * 4294967296 + a ≤ t) = false := HR.out
        go_wp2_with fail
        refine (lines_k H3.out 0 (by unfold cLn lnV; simp [hle])).mono ?_
        rintro e w6 ⟨rfl, rfl⟩
        have H6 := _root_.Go.Lib.hid H3.out.drew
        clear H3
        go_wp2_with fail
        go_ret
        exact ⟨rfl, H6.out.bel⟩
theorem halves_calls (a b n : Int) (w : World) (hT : Tab w) (ha : 0 ≤ a ∧ a < 4294967296) (hb : 0 ≤ b ∧ b < 4294967296) (hn : 0 ≤ n ∧ n < 4294967296) :
    Calls Tryd.prog 8 #[.int .u32 a, .int .u32 b, .int .u32 n] w fun e w' => e = .returned (.bool true) ∧ Below w.heap.size w w' := halves_raw a b n _ w hT ha hb hn rfl _ rfl
end Go.Proofs.YtogepklmmehbjaaDoor
