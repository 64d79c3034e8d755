/-
  The reference's desk: who waits, what it tells and leaves. Conditions: bit 0 of its words is not set.
-/
import Derived.Test.YtogepklmmehbjaaDoorBits
import Derived.Deep.RegionWith
set_option linter.unusedVariables false
set_option linter.unusedSimpArgs false
namespace Go.Proofs.YtogepklmmehbjaaDoor
open Go.RowKit Go.Lib

abbrev rdR (A E S : Nat) : Array Value := #[.int .u32 (A : Int), .int .u32 (E : Int), .int .u32 (S : Int)]
def nD (A E S : Nat) : Dk := ⟨(A : Int), (E : Int), (S : Int)⟩
theorem bV_test (X j : Nat) : bV X j = (X.testBit j).toNat := by
  unfold bV
  rw [Nat.testBit_eq_decide_div_mod_eq]
  rcases Nat.mod_two_eq_zero_or_one (X / 2 ^ j) with h | h <;> rw [h] <;> rfl
/-- Who waits, as a number. -/
def wN (A E S : Nat) : Nat := ((BitVec.ofNat 32 A &&& BitVec.ofNat 32 E) &&& ~~~BitVec.ofNat 32 S).toNat
theorem wN_lt (A E S : Nat) : wN A E S < 4294967296 := BitVec.isLt _
theorem dW_nD (A E S : Nat) (hA : A < 4294967296) (hE : E < 4294967296) (hS : S < 4294967296) : dW (nD A E S) = ((wN A E S : Nat) : Int) := by
  show bits .andNot .u32 (bits .and .u32 (A : Int) (E : Int)) (S : Int) = _
  rw [u_nat A hA, u_nat E hE, u_nat S hS, and_u, andNot_u]
  rfl
theorem test_nat (X j : Nat) (hX : X < 4294967296) : (BitVec.ofNat 32 X).getLsbD j = X.testBit j := by
  rw [← BitVec.testBit_toNat, BitVec.toNat_ofNat, Nat.mod_eq_of_lt hX]
theorem wN_bit (A E S j : Nat) (hA : A < 4294967296) (hE : E < 4294967296) (hS : S < 4294967296) (hj : j < 32) : (wN A E S).testBit j = ((A.testBit j && E.testBit j) && !S.testBit j) := by
  unfold wN
  rw [BitVec.testBit_toNat, BitVec.getLsbD_and, BitVec.getLsbD_and, BitVec.getLsbD_not, test_nat A j hA, test_nat E j hE, test_nat S j hS]
  simp [hj]
theorem bV_zero_of {X j : Nat} (h : X.testBit j = false) : X / 2 ^ j % 2 = 0 := by
  have := bV_test X j
  rw [h] at this
  exact this
theorem bV_one_of {X j : Nat} (h : X.testBit j = true) : X / 2 ^ j % 2 = 1 := by
  have := bV_test X j
  rw [h] at this
  exact this
theorem num_zero {A E S : Nat} (hA : A < 4294967296) (hE : E < 4294967296) (hS : S < 4294967296) (h : wN A E S = 0) : dNum (nD A E S) = 0 := by
  unfold dNum
  rw [dW_nD A E S hA hE hS, h]
  rfl
theorem num_at {A E S j : Nat} (hA : A < 4294967296) (hE : E < 4294967296) (hS : S < 4294967296) (hj : j < 32) (h0 : wN A E S % 2 ^ j = 0) (h1 : wN A E S / 2 ^ j % 2 = 1) : dNum (nD A E S) = j := by
  have ht := top_part _ _ h1
  rw [h0, Nat.sub_zero] at ht
  have hp : 0 < 2 ^ j := Nat.two_pow_pos j
  have hne : wN A E S ≠ 0 := fun e => by rw [e, Nat.zero_div] at h1; cases h1
  unfold dNum
  rw [dW_nD A E S hA hE hS, if_neg (by omega), Int.toNat_natCast, ht]
  exact ctz_of j _ hj

set_option maxRecDepth 100000 in
set_option maxHeartbeats 1000000 in
theorem waits_calls (A E S : Nat) (hA : A < 4294967296) (hE : E < 4294967296) (hS : S < 4294967296) (hev : A % 2 = 0) (w : World) :
    Calls Tryd.prog 26 #[.agg (rdR A E S)] w fun r w' => r = .returned (.int .u32 ((dNum (nD A E S) : Nat) : Int)) ∧ Below w.heap.size w w' := by
  have HA := _root_.Go.Lib.hid hA
  have HE := _root_.Go.Lib.hid hE
  have HS := _root_.Go.Lib.hid hS
  have h10 : wN A E S % 2 ^ 1 = 0 := by
    have h1 := wN_bit A E S 0 hA hE hS (by decide)
    have h2 : A.testBit 0 = false := by rw [Nat.testBit_zero]; simp; omega
    rw [h2, Bool.false_and, Bool.false_and, Nat.testBit_zero, decide_eq_false_iff_not] at h1
    rw [Nat.pow_one]; omega
  have H10 := _root_.Go.Lib.hid h10
  have hlt := wN_lt A E S
  have HW := _root_.Go.Lib.hid hlt
  clear hA hE hS hev h10 hlt
  go_enter Tryd.func26, Tryd.ntmps26
  go_wp2
  go_loopg [3] 31 (fun k i wr => ∃ j : Nat, j + k = 32 ∧ 1 ≤ j ∧ i = .int .i64 (j : Int) ∧ wN A E S % 2 ^ j = 0 ∧ wr = w.alloc (.cells (rdR A E S) 46))
  case atStart => exact ⟨1, by omega, by omega, rfl, H10.out, rfl⟩
  case round =>
    obtain ⟨j, hj, hj1, rfl, h0, rfl⟩ := hrel
    have H0 := _root_.Go.Lib.hid h0
    clear h0
    by_cases hj32 : j < 32
    · have hlt : ((j : Int) < 32) = True := eq_true (by omega)
      have hb := wN_bit A E S j HA.out HE.out HS.out hj32
      have HB := _root_.Go.Lib.hid hb
      clear hb
      rcases hta : A.testBit j with _ | _
      · have fa : bV A j = 0 := bV_zero_of hta
        have HTA := _root_.Go.Lib.hid hta
        have FA := _root_.Go.Lib.hid fa
        clear hta fa
        go_wp2_with (go_at_call 33; refine (field_one A j HA.out (by omega) _).mono ?_; rw [FA.out]; rintro r w1 ⟨rfl, rfl⟩)
        go_roundg (32 - (j + 1))
        case measure => omega
        case rel => exact ⟨j + 1, by omega, by omega, by first | rfl | go_num, by rw [mod_next, H0.out, bV_zero_of (by rw [HB.out, HTA.out]; rfl)]; rfl, rfl⟩
      · have fa : bV A j = 1 := bV_one_of hta
        have HTA := _root_.Go.Lib.hid hta
        have FA := _root_.Go.Lib.hid fa
        clear hta fa
        rcases hte : E.testBit j with _ | _
        · have fe : bV E j = 0 := bV_zero_of hte
          have HTE := _root_.Go.Lib.hid hte
          have FE := _root_.Go.Lib.hid fe
          clear hte fe
          go_wp2_with (first | (go_at_call 33; ((with_reducible refine (field_one A j HA.out (by omega) _).mono ?_); rw [FA.out]; rintro r w1 ⟨rfl, rfl⟩)) | (go_at_call 33; ((with_reducible refine (field_one E j HE.out (by omega) _).mono ?_); rw [FE.out]; rintro r w1 ⟨rfl, rfl⟩)))
          go_roundg (32 - (j + 1))
          case measure => omega
          case rel => exact ⟨j + 1, by omega, by omega, by first | rfl | go_num, by rw [mod_next, H0.out, bV_zero_of (by rw [HB.out, HTA.out, HTE.out]; rfl)]; rfl, rfl⟩
        · have fe : bV E j = 1 := bV_one_of hte
          have HTE := _root_.Go.Lib.hid hte
          have FE := _root_.Go.Lib.hid fe
          clear hte fe
          rcases hts : S.testBit j with _ | _
          · have fs : bV S j = 0 := bV_zero_of hts
            have HTS := _root_.Go.Lib.hid hts
            have FS := _root_.Go.Lib.hid fs
            clear hts fs
            have HN := _root_.Go.Lib.hid (num_at HA.out HE.out HS.out hj32 H0.out (bV_one_of (by rw [HB.out, HTA.out, HTE.out, HTS.out]; rfl)))
            go_wp2_with (first | (go_at_call 33; ((with_reducible refine (field_one A j HA.out (by omega) _).mono ?_); rw [FA.out]; rintro r w1 ⟨rfl, rfl⟩)) | (go_at_call 33; ((with_reducible refine (field_one E j HE.out (by omega) _).mono ?_); rw [FE.out]; rintro r w1 ⟨rfl, rfl⟩)) | (go_at_call 33; ((with_reducible refine (field_one S j HS.out (by omega) _).mono ?_); rw [FS.out]; rintro r w1 ⟨rfl, rfl⟩)))
            go_ret
            exact ⟨int_ret1 (by rw [HN.out]), (Below.refl _ _).alloc (Nat.le_refl _) _⟩
          · have fs : bV S j = 1 := bV_one_of hts
            have HTS := _root_.Go.Lib.hid hts
            have FS := _root_.Go.Lib.hid fs
            clear hts fs
            go_wp2_with (first | (go_at_call 33; ((with_reducible refine (field_one A j HA.out (by omega) _).mono ?_); rw [FA.out]; rintro r w1 ⟨rfl, rfl⟩)) | (go_at_call 33; ((with_reducible refine (field_one E j HE.out (by omega) _).mono ?_); rw [FE.out]; rintro r w1 ⟨rfl, rfl⟩)) | (go_at_call 33; ((with_reducible refine (field_one S j HS.out (by omega) _).mono ?_); rw [FS.out]; rintro r w1 ⟨rfl, rfl⟩)))
            go_roundg (32 - (j + 1))
            case measure => omega
            case rel => exact ⟨j + 1, by omega, by omega, by first | rfl | go_num, by rw [mod_next, H0.out, bV_zero_of (by rw [HB.out, HTA.out, HTE.out, HTS.out]; rfl)]; rfl, rfl⟩
    · obtain rfl : j = 32 := by omega
      have hz : wN A E S = 0 := by have h1 := H0.out; have h2 := HW.out; omega
      have HN := _root_.Go.Lib.hid (num_zero HA.out HE.out HS.out hz)
      clear hz
      go_wp2
      go_ret
      exact ⟨int_ret1 (by rw [HN.out]; rfl), (Below.refl _ _).alloc (Nat.le_refl _) _⟩
end Go.Proofs.YtogepklmmehbjaaDoor
