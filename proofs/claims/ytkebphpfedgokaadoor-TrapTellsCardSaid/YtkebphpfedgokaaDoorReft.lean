/-
  The reference's target and first.
-/
import Derived.Test.YtkebphpfedgokaaDoorRefb
import Derived.Test.YtkebphpfedgokaaDoorThigher
set_option linter.unusedVariables false
set_option linter.unusedSimpArgs false
namespace Go.Proofs.YtkebphpfedgokaaDoor
open Go.RowKit Go.Lib
theorem andNot3 (X : Nat) (hX : X < 4294967296) : bits .andNot .u32 (X : Int) 3 = (X : Int) - (X : Int) % 4 := by
  have h3 : (3 : Int) = ((3 : Nat) : Int) := rfl
  have hm : (X &&& 3) = X % 4 := Nat.and_two_pow_sub_one_eq_mod X 2
  have hp : (X &&& 3) &&& X = X &&& 3 := by
    apply Nat.eq_of_testBit_eq
    intro i
    rw [Nat.testBit_and, Nat.testBit_and]
    cases X.testBit i <;> simp
  obtain ⟨h1, hle⟩ := andNot_sub X (X &&& 3) hX hp
  have e : bits .andNot .u32 (X : Int) 3 = bits .andNot .u32 (X : Int) ((X &&& 3 : Nat) : Int) := by
    refine eq_of_hb (w32_bits (.inr (.inr rfl)) _ _) (w32_bits (.inr (.inr rfl)) _ _) fun k hk => ?_
    rw [hb_andNot _ _ k hk, hb_andNot _ _ k hk]
    have : hb ((X &&& 3 : Nat) : Int) k = (hb (X : Int) k && hb 3 k) := by
      unfold hb
      rw [BitVec.ofInt_natCast, BitVec.ofInt_natCast, h3, BitVec.ofInt_natCast, BitVec.getLsbD_ofNat, BitVec.getLsbD_ofNat, BitVec.getLsbD_ofNat, Nat.testBit_and]
      simp [hk]
    rw [this]
    cases hb (X : Int) k <;> simp
  rw [e, h1, hm]
  have : X % 4 ≤ X := Nat.mod_le _ _
  omega
theorem and31_mod (C : Nat) (hC : C < 4294967296) : bits .and .u32 (C : Int) 31 = (C : Int) % 32 := by
  rw [and_bv, BitVec.ofInt_natCast, BitVec.toNat_and, BitVec.toNat_ofNat, Nat.mod_eq_of_lt (show C < 2 ^ 32 by omega), show (BitVec.ofInt 32 31).toNat = 2 ^ 5 - 1 by decide, Nat.and_two_pow_sub_one_eq_mod]
  omega
theorem int_ge (c : Int) (hc : W32 c) : tInt c = decide (c ≥ 2147483648) := by
  rw [← int_top c hc]
  have h1 := hc.1
  have h2 := hc.2
  by_cases h : c ≥ 2147483648
  · rw [decide_eq_true h, beq_iff_eq]; omega
  · rw [decide_eq_false h, beq_eq_false_iff_ne]; omega
theorem odd_has (V : Nat) (hV : V < 4294967296) : tHas (V : Int) 1 = ((V : Int) % 2 == 1) := by
  rw [tHas_pow _ 1 0 (by decide) (by decide), hb_nat V 0 (by decide)]
  have : V / 2 ^ 0 = V := by simp
  rw [this]
  by_cases h : V % 2 = 1
  · rw [decide_eq_true h]; symm; rw [beq_iff_eq]; omega
  · rw [decide_eq_false h]; symm; rw [beq_eq_false_iff_ne]; omega
theorem rtarget_calls (v c : Int) (hv : W32 v) (hc : W32 c) (w : World) : Calls Tryd.prog 26 #[.int .u32 v, .int .u32 c] w fun e w' => e = .returned (.int .u32 (tTarget v c)) ∧ w = w' := by
  have hi := int_ge c hc
  obtain ⟨V, rfl⟩ : ∃ n : Nat, v = n := ⟨v.toNat, by have := hv.1; omega⟩
  obtain ⟨C, rfl⟩ : ∃ n : Nat, c = n := ⟨c.toNat, by have := hc.1; omega⟩
  have hV : V < 4294967296 := by have := hv.2; omega
  have hC : C < 4294967296 := by have := hc.2; omega
  have ho := odd_has V hV
  have e : tTarget (V : Int) (C : Int) = if decide ((C : Int) ≥ 2147483648) && ((V : Int) % 2 == 1) then ((V : Int) - (V : Int) % 4 + 4 * ((C : Int) % 32)) % 4294967296 else (V : Int) - (V : Int) % 4 := by
    unfold tTarget
    rw [hi, ho, andNot3 V hV, and31_mod C hC]
    split
    · omega
    · rfl
  rw [e]
  clear e hi ho hv hc
  by_cases h1 : (C : Int) ≥ 2147483648
  · rw [decide_eq_true h1, Bool.true_and]
    have g1 : ((C : Int) ≥ 2147483648) = True := eq_true h1
    cases h2 : ((V : Int) % 2 == 1)
    · clear h1
      go_enter Tryd.func26, Tryd.ntmps26
      go_wp2
      go_ret
      exact ⟨rfl, rfl⟩
    · clear h1
      go_enter Tryd.func26, Tryd.ntmps26
      go_wp2
      go_ret
      exact ⟨rfl, rfl⟩
  · rw [decide_eq_false h1, Bool.false_and]
    have g1 : ((C : Int) ≥ 2147483648) = False := eq_false h1
    clear h1
    go_enter Tryd.func26, Tryd.ntmps26
    go_wp2
    go_ret
    exact ⟨rfl, rfl⟩
def fInt (x : Int) : Int := match pFirst x with
  | some n => (n : Int)
  | none => -1
abbrev firstO : Obj := .cells #[.int .i64 11, .int .i64 3, .int .i64 7, .int .i64 9, .int .i64 1, .int .i64 5] 3
set_option maxRecDepth 100000 in
set_option maxHeartbeats 1600000 in
theorem first_calls (x : Int) (hx : W32 x) (w : World) : Calls Tryd.prog 21 #[.int .u32 x] w fun e w' => e = .returned (.int .i64 (fInt x)) ∧ Below w.heap.size w w' := by
  have HX := _root_.Go.Lib.hid hx
  clear hx
  go_enter Tryd.func21, Tryd.ntmps21
  go_wp2_with fail
  have hk : (w.alloc firstO).heap[w.heap.size]? = some firstO := heap_alloc_new w _
  have hbel : Below w.heap.size w (w.alloc firstO) := (Below.refl _ _).alloc (Nat.le_refl _) _
  generalize w.alloc firstO = wc at hk hbel ⊢
  generalize hbb : w.heap.size = b at hk hbel ⊢
  have m0 : wc.cell? ⟨b, 0, none⟩ = some (.int .i64 11) := cell_at hk 0
  have m1 : wc.cell? ⟨b, 1, none⟩ = some (.int .i64 3) := cell_at hk 1
  have m2 : wc.cell? ⟨b, 2, none⟩ = some (.int .i64 7) := cell_at hk 2
  have m3 : wc.cell? ⟨b, 3, none⟩ = some (.int .i64 9) := cell_at hk 3
  have m4 : wc.cell? ⟨b, 4, none⟩ = some (.int .i64 1) := cell_at hk 4
  have m5 : wc.cell? ⟨b, 5, none⟩ = some (.int .i64 5) := cell_at hk 5
  have HB := _root_.Go.Lib.hid hbel
  clear hk hbel
  go_loopg [4] 6 (fun k i wr => ∃ j : Nat, j + k = 6 ∧ i = .int .i64 (j : Int) ∧ ((0 < j → hb x 11 = false) ∧ (1 < j → hb x 3 = false) ∧ (2 < j → hb x 7 = false) ∧ (3 < j → hb x 9 = false) ∧ (4 < j → hb x 1 = false) ∧ (5 < j → hb x 5 = false)) ∧ wc = wr)
  case atStart => exact ⟨0, rfl, rfl, ⟨fun h => by omega, fun h => by omega, fun h => by omega, fun h => by omega, fun h => by omega, fun h => by omega⟩, rfl⟩
  case round =>
    obtain ⟨j, hj, rfl, ⟨h0, h1, h2, h3, h4, h5⟩, rfl⟩ := hrel
    rcases (show j = 0 ∨ j = 1 ∨ j = 2 ∨ j = 3 ∨ j = 4 ∨ j = 5 ∨ j = 6 by omega) with rfl | rfl | rfl | rfl | rfl | rfl | rfl
    · have HJ := _root_.Go.Lib.hid (And.intro hj (And.intro h0 (And.intro h1 (And.intro h2 (And.intro h3 (And.intro h4 h5))))))
      clear hj h0 h1 h2 h3 h4 h5
      rcases hv : hb x 11 with _ | _
      · have HV := _root_.Go.Lib.hid hv
        clear hv
        go_wp2_with (go_at_call 20; refine (rbit_calls x HX.out 11 (by decide) _).mono ?_; rw [HV.out]; rintro e wq ⟨rfl, rfl⟩)
        go_roundg 5
        case measure => have := HJ.out.1; omega
        case rel => exact ⟨1, rfl, by first | rfl | go_num, ⟨fun _ => HV.out, fun h => by omega, fun h => by omega, fun h => by omega, fun h => by omega, fun h => by omega⟩, rfl⟩
      · have HV := _root_.Go.Lib.hid hv
        clear hv
        go_wp2_with (go_at_call 20; refine (rbit_calls x HX.out 11 (by decide) _).mono ?_; rw [HV.out]; rintro e wq ⟨rfl, rfl⟩)
        obtain ⟨_, h0, h1, h2, h3, h4, h5⟩ := HJ.out
        go_ret
        refine ⟨?_, by first | exact HB.out | (rw [hbb]; exact HB.out)⟩
        have e : fInt x = 11 := by unfold fInt pFirst; simp only [has2048, has8, has128, has512, has2, has32, HV.out]; rfl
        rw [e]
        rfl
    · have HJ := _root_.Go.Lib.hid (And.intro hj (And.intro h0 (And.intro h1 (And.intro h2 (And.intro h3 (And.intro h4 h5))))))
      clear hj h0 h1 h2 h3 h4 h5
      rcases hv : hb x 3 with _ | _
      · have HV := _root_.Go.Lib.hid hv
        clear hv
        go_wp2_with (go_at_call 20; refine (rbit_calls x HX.out 3 (by decide) _).mono ?_; rw [HV.out]; rintro e wq ⟨rfl, rfl⟩)
        go_roundg 4
        case measure => have := HJ.out.1; omega
        case rel => exact ⟨2, rfl, by first | rfl | go_num, ⟨fun _ => HJ.out.2.1 (by decide), fun _ => HV.out, fun h => by omega, fun h => by omega, fun h => by omega, fun h => by omega⟩, rfl⟩
      · have HV := _root_.Go.Lib.hid hv
        clear hv
        go_wp2_with (go_at_call 20; refine (rbit_calls x HX.out 3 (by decide) _).mono ?_; rw [HV.out]; rintro e wq ⟨rfl, rfl⟩)
        obtain ⟨_, h0, h1, h2, h3, h4, h5⟩ := HJ.out
        go_ret
        refine ⟨?_, by first | exact HB.out | (rw [hbb]; exact HB.out)⟩
        have e : fInt x = 3 := by unfold fInt pFirst; simp only [has2048, has8, has128, has512, has2, has32, HV.out, h0 (by omega)]; rfl
        rw [e]
        rfl
    · have HJ := _root_.Go.Lib.hid (And.intro hj (And.intro h0 (And.intro h1 (And.intro h2 (And.intro h3 (And.intro h4 h5))))))
      clear hj h0 h1 h2 h3 h4 h5
      rcases hv : hb x 7 with _ | _
      · have HV := _root_.Go.Lib.hid hv
        clear hv
        go_wp2_with (go_at_call 20; refine (rbit_calls x HX.out 7 (by decide) _).mono ?_; rw [HV.out]; rintro e wq ⟨rfl, rfl⟩)
        go_roundg 3
        case measure => have := HJ.out.1; omega
        case rel => exact ⟨3, rfl, by first | rfl | go_num, ⟨fun _ => HJ.out.2.1 (by decide), fun _ => HJ.out.2.2.1 (by decide), fun _ => HV.out, fun h => by omega, fun h => by omega, fun h => by omega⟩, rfl⟩
      · have HV := _root_.Go.Lib.hid hv
        clear hv
        go_wp2_with (go_at_call 20; refine (rbit_calls x HX.out 7 (by decide) _).mono ?_; rw [HV.out]; rintro e wq ⟨rfl, rfl⟩)
        obtain ⟨_, h0, h1, h2, h3, h4, h5⟩ := HJ.out
        go_ret
        refine ⟨?_, by first | exact HB.out | (rw [hbb]; exact HB.out)⟩
        have e : fInt x = 7 := by unfold fInt pFirst; simp only [has2048, has8, has128, has512, has2, has32, HV.out, h0 (by omega), h1 (by omega)]; rfl
        rw [e]
        rfl
    · have HJ := _root_.Go.Lib.hid (And.intro hj (And.intro h0 (And.intro h1 (And.intro h2 (And.intro h3 (And.intro h4 h5))))))
      clear hj h0 h1 h2 h3 h4 h5
      rcases hv : hb x 9 with _ | _
      · have HV := _root_.Go.Lib.hid hv
        clear hv
        go_wp2_with (go_at_call 20; refine (rbit_calls x HX.out 9 (by decide) _).mono ?_; rw [HV.out]; rintro e wq ⟨rfl, rfl⟩)
        go_roundg 2
        case measure => have := HJ.out.1; omega
        case rel => exact ⟨4, rfl, by first | rfl | go_num, ⟨fun _ => HJ.out.2.1 (by decide), fun _ => HJ.out.2.2.1 (by decide), fun _ => HJ.out.2.2.2.1 (by decide), fun _ => HV.out, fun h => by omega, fun h => by omega⟩, rfl⟩
      · have HV := _root_.Go.Lib.hid hv
        clear hv
        go_wp2_with (go_at_call 20; refine (rbit_calls x HX.out 9 (by decide) _).mono ?_; rw [HV.out]; rintro e wq ⟨rfl, rfl⟩)
        obtain ⟨_, h0, h1, h2, h3, h4, h5⟩ := HJ.out
        go_ret
        refine ⟨?_, by first | exact HB.out | (rw [hbb]; exact HB.out)⟩
        have e : fInt x = 9 := by unfold fInt pFirst; simp only [has2048, has8, has128, has512, has2, has32, HV.out, h0 (by omega), h1 (by omega), h2 (by omega)]; rfl
        rw [e]
        rfl
    · have HJ := _root_.Go.Lib.hid (And.intro hj (And.intro h0 (And.intro h1 (And.intro h2 (And.intro h3 (And.intro h4 h5))))))
      clear hj h0 h1 h2 h3 h4 h5
      rcases hv : hb x 1 with _ | _
      · have HV := _root_.Go.Lib.hid hv
        clear hv
        go_wp2_with (go_at_call 20; refine (rbit_calls x HX.out 1 (by decide) _).mono ?_; rw [HV.out]; rintro e wq ⟨rfl, rfl⟩)
        go_roundg 1
        case measure => have := HJ.out.1; omega
        case rel => exact ⟨5, rfl, by first | rfl | go_num, ⟨fun _ => HJ.out.2.1 (by decide), fun _ => HJ.out.2.2.1 (by decide), fun _ => HJ.out.2.2.2.1 (by decide), fun _ => HJ.out.2.2.2.2.1 (by decide), fun _ => HV.out, fun h => by omega⟩, rfl⟩
      · have HV := _root_.Go.Lib.hid hv
        clear hv
        go_wp2_with (go_at_call 20; refine (rbit_calls x HX.out 1 (by decide) _).mono ?_; rw [HV.out]; rintro e wq ⟨rfl, rfl⟩)
        obtain ⟨_, h0, h1, h2, h3, h4, h5⟩ := HJ.out
        go_ret
        refine ⟨?_, by first | exact HB.out | (rw [hbb]; exact HB.out)⟩
        have e : fInt x = 1 := by unfold fInt pFirst; simp only [has2048, has8, has128, has512, has2, has32, HV.out, h0 (by omega), h1 (by omega), h2 (by omega), h3 (by omega)]; rfl
        rw [e]
        rfl
    · have HJ := _root_.Go.Lib.hid (And.intro hj (And.intro h0 (And.intro h1 (And.intro h2 (And.intro h3 (And.intro h4 h5))))))
      clear hj h0 h1 h2 h3 h4 h5
      rcases hv : hb x 5 with _ | _
      · have HV := _root_.Go.Lib.hid hv
        clear hv
        go_wp2_with (go_at_call 20; refine (rbit_calls x HX.out 5 (by decide) _).mono ?_; rw [HV.out]; rintro e wq ⟨rfl, rfl⟩)
        go_roundg 0
        case measure => have := HJ.out.1; omega
        case rel => exact ⟨6, rfl, by first | rfl | go_num, ⟨fun _ => HJ.out.2.1 (by decide), fun _ => HJ.out.2.2.1 (by decide), fun _ => HJ.out.2.2.2.1 (by decide), fun _ => HJ.out.2.2.2.2.1 (by decide), fun _ => HJ.out.2.2.2.2.2.1 (by decide), fun _ => HV.out⟩, rfl⟩
      · have HV := _root_.Go.Lib.hid hv
        clear hv
        go_wp2_with (go_at_call 20; refine (rbit_calls x HX.out 5 (by decide) _).mono ?_; rw [HV.out]; rintro e wq ⟨rfl, rfl⟩)
        obtain ⟨_, h0, h1, h2, h3, h4, h5⟩ := HJ.out
        go_ret
        refine ⟨?_, by first | exact HB.out | (rw [hbb]; exact HB.out)⟩
        have e : fInt x = 5 := by unfold fInt pFirst; simp only [has2048, has8, has128, has512, has2, has32, HV.out, h0 (by omega), h1 (by omega), h2 (by omega), h3 (by omega), h4 (by omega)]; rfl
        rw [e]
        rfl
    · have e : fInt x = -1 := by unfold fInt pFirst; simp only [has2048, has8, has128, has512, has2, has32, h0 (by omega), h1 (by omega), h2 (by omega), h3 (by omega), h4 (by omega), h5 (by omega)]; rfl
      have HE := _root_.Go.Lib.hid e
      clear e hj h0 h1 h2 h3 h4 h5
      go_wp2_with fail
      go_ret
      refine ⟨?_, by first | exact HB.out | (rw [hbb]; exact HB.out)⟩
      rw [HE.out]
      rfl
end Go.Proofs.YtkebphpfedgokaaDoor
