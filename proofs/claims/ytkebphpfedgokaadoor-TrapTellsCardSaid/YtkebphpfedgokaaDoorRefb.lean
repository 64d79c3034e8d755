/-
  The reference's bit, put, Field and Put of two bits, target, first.
-/
import Derived.Test.YtkebphpfedgokaaDoorBits
import Derived.Test.YtkebphpfedgokaaDoorTquiet
set_option linter.unusedVariables false
set_option linter.unusedSimpArgs false
namespace Go.Proofs.YtkebphpfedgokaaDoor
open Go.RowKit Go.Lib

theorem or_nat (X Y : Nat) (hX : X < 4294967296) (hY : Y < 4294967296) : bits .or .u32 (X : Int) (Y : Int) = ((X ||| Y : Nat) : Int) := by
  rw [or_bv, BitVec.ofInt_natCast, BitVec.ofInt_natCast, BitVec.toNat_or, BitVec.toNat_ofNat, BitVec.toNat_ofNat, Nat.mod_eq_of_lt (by omega), Nat.mod_eq_of_lt (by omega)]
/-- Words are equal that have the same bits. -/
theorem eq_of_hb {x y : Int} (hx : W32 x) (hy : W32 y) (h : ∀ k, k < 32 → hb x k = hb y k) : x = y := by
  have e : BitVec.ofInt 32 x = BitVec.ofInt 32 y := BitVec.eq_of_getLsbD_eq fun i hi => h i hi
  have ex : ((BitVec.ofInt 32 x).toNat : Int) = x := by rw [BitVec.toNat_ofInt]; have := hx.1; have := hx.2; omega
  have ey : ((BitVec.ofInt 32 y).toNat : Int) = y := by rw [BitVec.toNat_ofInt]; have := hy.1; have := hy.2; omega
  rw [← ex, ← ey, e]
theorem w32_bits {o : BinOp} (ho : o = .and ∨ o = .or ∨ o = .andNot) (x y : Int) : W32 (bits o .u32 x y) := bits_fits ho x y
theorem w32_tSet (x b : Int) (t : Bool) : W32 (tSet x b t) := by
  unfold tSet; cases t
  · exact w32_bits (.inr (.inr rfl)) _ _
  · exact w32_bits (.inr (.inl rfl)) _ _
theorem hb_pow (k j : Nat) (hk : k < 32) (hj : j < 32) : hb ((2 ^ k : Nat) : Int) j = decide (j = k) := by
  unfold hb
  have : BitVec.ofInt 32 ((2 ^ k : Nat) : Int) = BitVec.twoPow 32 k := by
    rw [BitVec.ofInt_natCast]
    apply BitVec.eq_of_toNat_eq
    rw [BitVec.toNat_twoPow, BitVec.toNat_ofNat]
  rw [this, BitVec.getLsbD_twoPow]
  simp [hk]
  exact eq_comm
theorem sub_u (x y : BitVec 32) (h : y &&& x = y) : (x &&& ~~~y).toNat + y.toNat = x.toNat ∧ (x &&& ~~~y) ||| y = x := by
  have h0 : (x &&& ~~~y) &&& y = 0#32 := by
    ext i hi
    simp
  have h1 : (x &&& ~~~y) ||| y = x := by
    ext i hi
    have := congrArg (·.getLsbD i) h
    simp only [BitVec.getLsbD_and] at this
    simp only [BitVec.getElem_or, BitVec.getElem_and, BitVec.getElem_not]
    rw [BitVec.getLsbD_eq_getElem hi, BitVec.getLsbD_eq_getElem hi] at this
    cases h2 : x[i] <;> cases h3 : y[i] <;> simp_all
  refine ⟨?_, h1⟩
  have h2 : (x &&& ~~~y) + y = x := by rw [BitVec.add_eq_or_of_and_eq_zero _ _ h0, h1]
  have h3 : (x &&& ~~~y).toNat ≤ 4294967295 - y.toNat := by
    rw [BitVec.toNat_and]
    refine Nat.le_trans Nat.and_le_right ?_
    rw [BitVec.toNat_not]
    exact Nat.le_refl _
  have h4 := congrArg BitVec.toNat h2
  rw [BitVec.toNat_add] at h4
  have := y.isLt
  have := x.isLt
  omega
theorem ofNat_and (X Y : Nat) (hX : X < 4294967296) (hY : Y < 4294967296) (h : Y &&& X = Y) : BitVec.ofNat 32 Y &&& BitVec.ofNat 32 X = BitVec.ofNat 32 Y := by
  apply BitVec.eq_of_toNat_eq
  rw [BitVec.toNat_and, BitVec.toNat_ofNat, BitVec.toNat_ofNat, Nat.mod_eq_of_lt hX, Nat.mod_eq_of_lt hY, h]
/-- A part of a word taken off. -/
theorem andNot_sub (X Y : Nat) (hX : X < 4294967296) (h : Y &&& X = Y) : bits .andNot .u32 (X : Int) (Y : Int) = ((X - Y : Nat) : Int) ∧ Y ≤ X := by
  have hle : Y ≤ X := by rw [← h]; exact Nat.and_le_right
  have hY : Y < 4294967296 := by omega
  refine ⟨?_, hle⟩
  rw [andNot_bv, BitVec.ofInt_natCast, BitVec.ofInt_natCast]
  have := (sub_u _ _ (ofNat_and X Y hX hY h)).1
  rw [BitVec.toNat_ofNat, BitVec.toNat_ofNat, Nat.mod_eq_of_lt hX, Nat.mod_eq_of_lt hY] at this
  omega
/-- The part put back. -/
theorem or_back (X Y : Nat) (hX : X < 4294967296) (h : Y &&& X = Y) : bits .or .u32 ((X - Y : Nat) : Int) (Y : Int) = (X : Int) := by
  obtain ⟨h1, hle⟩ := andNot_sub X Y hX h
  have hY : Y < 4294967296 := by omega
  rw [← h1, andNot_bv, or_bv, ofInt_bv, BitVec.ofInt_natCast, BitVec.ofInt_natCast]
  rw [(sub_u _ _ (ofNat_and X Y hX hY h)).2, BitVec.toNat_ofNat, Nat.mod_eq_of_lt hX]
theorem pow_part (X i : Nat) (h : X / 2 ^ i % 2 = 1) : 2 ^ i &&& X = 2 ^ i := by
  apply Nat.eq_of_testBit_eq
  intro j
  rw [Nat.testBit_and, Nat.testBit_two_pow]
  by_cases e : i = j
  · subst e
    rw [Nat.testBit_eq_decide_div_mod_eq, h]
    simp
  · simp [e]
theorem or_same (X i : Nat) (h : X / 2 ^ i % 2 = 1) : X ||| 2 ^ i = X := by
  apply Nat.eq_of_testBit_eq
  intro j
  rw [Nat.testBit_or, Nat.testBit_two_pow]
  by_cases e : i = j
  · subst e
    rw [Nat.testBit_eq_decide_div_mod_eq, h]
    simp
  · simp [e]
theorem andNot_same (X i : Nat) (hX : X < 4294967296) (hi : i < 32) (h : X / 2 ^ i % 2 = 0) : bits .andNot .u32 (X : Int) ((2 ^ i : Nat) : Int) = (X : Int) := by
  refine eq_of_hb (w32_bits (.inr (.inr rfl)) _ _) ⟨by omega, by omega⟩ fun k hk => ?_
  rw [hb_andNot _ _ k hk, hb_pow i k hi hk]
  by_cases e : k = i
  · subst e
    rw [hb_nat X k hk, h]; simp
  · simp [e]
/-- The reference's setting of a bit, as ours. -/
theorem sV_tSet (X k b : Nat) (hX : X < 4294967296) (hk : k ≤ 31) (hb' : b = 0 ∨ b = 1) : ((sV X k b : Nat) : Int) = tSet (X : Int) ((2 ^ k : Nat) : Int) (b == 1) := by
  have hle := bit_le X k
  have hroom := bit_room X k hX hk
  have hp : 0 < 2 ^ k := Nat.two_pow_pos k
  have h31 : 2 ^ k ≤ 2 ^ 31 := Nat.pow_le_pow_right (by decide) hk
  unfold sV tSet
  rcases bV_01 X k with h | h <;> rw [h] at hle hroom ⊢ <;> rcases hb' with rfl | rfl
  · show ((X - 0 * 2 ^ k + 0 * 2 ^ k : Nat) : Int) = bits .andNot .u32 _ _
    rw [andNot_same X k hX (by omega) h]
    omega
  · show ((X - 0 * 2 ^ k + 1 * 2 ^ k : Nat) : Int) = bits .or .u32 _ _
    have h1 := hroom rfl
    have h2 : (X + 2 ^ k) / 2 ^ k % 2 = 1 := by
      rw [Nat.add_div_right X hp]
      have : X / 2 ^ k % 2 = 0 := h
      omega
    have h3 := or_back (X + 2 ^ k) (2 ^ k) h1 (pow_part _ _ h2)
    rw [Nat.add_sub_cancel] at h3
    rw [h3]
    omega
  · show ((X - 1 * 2 ^ k + 0 * 2 ^ k : Nat) : Int) = bits .andNot .u32 _ _
    rw [(andNot_sub X (2 ^ k) hX (pow_part _ _ h)).1]
    omega
  · show ((X - 1 * 2 ^ k + 1 * 2 ^ k : Nat) : Int) = bits .or .u32 _ _
    rw [or_nat X (2 ^ k) hX (by omega), or_same X k h]
    omega
/-- The reference's bit, and its put. -/
theorem rbit_calls (x : Int) (hx : W32 x) (k : Nat) (hk : k ≤ 31) (w : World) : Calls Tryd.prog 20 #[.int .u32 x, .int .i64 (k : Int)] w fun e w' => e = .returned (.int .u32 (if hb x k then 1 else 0)) ∧ w = w' := by
  obtain ⟨X, rfl⟩ : ∃ n : Nat, x = n := ⟨x.toNat, by have := hx.1; omega⟩
  have hX : X < 4294967296 := by have := hx.2; omega
  have e : (if hb (X : Int) k then (1 : Int) else 0) = ((bV X k : Nat) : Int) := by
    rw [hb_nat X k (by omega)]
    unfold bV
    by_cases h : X / 2 ^ k % 2 = 1
    · rw [decide_eq_true h, h]; rfl
    · rw [decide_eq_false h, show X / 2 ^ k % 2 = 0 by omega]; rfl
  rw [e]
  clear hx e
  have HX := _root_.Go.Lib.hid hX
  clear hX
  go_enter Tryd.func20, Tryd.ntmps20
  go_wp2_with (go_at_call 28; refine (field_one X k HX.out hk _).mono ?_; rintro e w' ⟨rfl, rfl⟩)
  go_ret
  exact ⟨rfl, rfl⟩
theorem rput_calls (x : Int) (hx : W32 x) (k : Nat) (hk : k ≤ 31) (m : Int) (hm : m = ((2 ^ k : Nat) : Int)) (v : Int) (b : Bool) (hv : v = if b then 1 else 0) (w : World) : Calls Tryd.prog 25 #[.int .u32 x, .int .i64 (k : Int), .int .u32 v] w fun e w' => e = .returned (.int .u32 (tSet x m b)) ∧ w = w' := by
  obtain ⟨X, rfl⟩ : ∃ n : Nat, x = n := ⟨x.toNat, by have := hx.1; omega⟩
  have hX : X < 4294967296 := by have := hx.2; omega
  obtain ⟨B, hB, e1, e2⟩ : ∃ B : Nat, (B = 0 ∨ B = 1) ∧ v = (B : Int) ∧ b = (B == 1) := by
    cases b
    · exact ⟨0, .inl rfl, hv, rfl⟩
    · exact ⟨1, .inr rfl, hv, rfl⟩
  rw [e2, hm, ← sV_tSet X k B hX hk hB, e1]
  clear hx e1 e2 hv
  have HX := _root_.Go.Lib.hid (And.intro hX hB)
  clear hX hB
  go_enter Tryd.func25, Tryd.ntmps25
  go_wp2_with (go_at_call 27; refine (put_one X k B HX.out.1 hk HX.out.2 _).mono ?_; rintro e w' ⟨rfl, rfl⟩)
  go_ret
  exact ⟨rfl, rfl⟩
set_option maxRecDepth 100000 in
/-- Two bits. -/
theorem field_two (X : Nat) (hX : X < 4294967296) (w : World) : Calls Tryd.prog 28 #[.int .u32 (X : Int), .int .i64 11, .int .i64 2] w fun e w' => e = .returned (.int .u32 ((sV (sV 0 0 (bV X 11)) 1 (bV X 12) : Nat) : Int)) ∧ w = w' := by
  have HX := _root_.Go.Lib.hid hX
  clear hX
  go_enter Tryd.func28, Tryd.ntmps28
  go_wp2
  go_loopg [7, 8] 2 (fun k v i wr => ((k = 2 ∧ i = .int .i64 0 ∧ v = .int .u32 0) ∨ (k = 1 ∧ i = .int .i64 1 ∧ v = .int .u32 ((bV X 11 : Nat) : Int)) ∨ (k = 0 ∧ i = .int .i64 2 ∧ v = .int .u32 ((sV (sV 0 0 (bV X 11)) 1 (bV X 12) : Nat) : Int))) ∧ w = wr)
  case atStart => exact ⟨.inl ⟨rfl, rfl, rfl⟩, rfl⟩
  case round =>
    obtain ⟨⟨hk, rfl, rfl⟩ | ⟨hk, rfl, rfl⟩ | ⟨hk, rfl, rfl⟩, rfl⟩ := hrel
    · have hS := set_bits 0 0 (bV X 11) (by decide) (by decide) (bV_01 X 11)
      rw [sV_zero] at hS
      have HS := _root_.Go.Lib.hid hS
      clear hS
      go_wp2_with (first | (go_at_call 31; refine (bit_calls X 11 HX.out (by decide) _).mono ?_; rintro e w1 ⟨rfl, rfl⟩) | (go_at_call 30; refine (HS.out _).mono ?_; rintro e w1 ⟨rfl, rfl⟩))
      go_roundg 1
      case measure => omega
      case rel => exact ⟨.inr (.inl ⟨rfl, rfl, rfl⟩), rfl⟩
    · have hS := set_bits (bV X 11) 1 (bV X 12) (by have := bV_01 X 11; omega) (by decide) (bV_01 X 12)
      have e0 : bV X 11 = sV 0 0 (bV X 11) := (sV_zero _).symm
      have HS := _root_.Go.Lib.hid hS
      have H0 := _root_.Go.Lib.hid e0
      clear hS e0
      go_wp2_with (first | (go_at_call 31; refine (bit_calls X 12 HX.out (by decide) _).mono ?_; rintro e w1 ⟨rfl, rfl⟩) | (go_at_call 30; refine (HS.out _).mono ?_; rintro e w1 ⟨rfl, rfl⟩))
      go_roundg 0
      case measure => omega
      case rel => exact ⟨.inr (.inr ⟨rfl, rfl, by rw [← H0.out]⟩), rfl⟩
    · go_wp2
      go_ret
      exact ⟨rfl, rfl⟩
set_option maxRecDepth 100000 in
theorem put_two (X B : Nat) (hX : X < 4294967296) (hB : B < 4) (w : World) : Calls Tryd.prog 27 #[.int .u32 (X : Int), .int .i64 11, .int .i64 2, .int .u32 (B : Int)] w fun e w' => e = .returned (.int .u32 ((sV (sV X 11 (bV B 0)) 12 (bV B 1) : Nat) : Int)) ∧ w = w' := by
  have h0 := bit_calls B 0 (by omega) (by decide)
  have h1 := bit_calls B 1 (by omega) (by decide)
  have hY : sV X 11 (bV B 0) < 4294967296 := by
    have := sV_tSet X 11 (bV B 0) hX (by decide) (bV_01 _ _)
    have h2 := w32_tSet (X : Int) ((2 ^ 11 : Nat) : Int) (bV B 0 == 1)
    rw [← this] at h2
    have := h2.2
    omega
  have HX := _root_.Go.Lib.hid (And.intro hX (And.intro hY (And.intro h0 h1)))
  clear hX hB hY h0 h1
  go_enter Tryd.func27, Tryd.ntmps27
  go_wp2
  go_loopg [0, 9] 2 (fun k v i wr => ((k = 2 ∧ i = .int .i64 0 ∧ v = .int .u32 (X : Int)) ∨ (k = 1 ∧ i = .int .i64 1 ∧ v = .int .u32 ((sV X 11 (bV B 0) : Nat) : Int)) ∨ (k = 0 ∧ i = .int .i64 2 ∧ v = .int .u32 ((sV (sV X 11 (bV B 0)) 12 (bV B 1) : Nat) : Int))) ∧ w = wr)
  case atStart => exact ⟨.inl ⟨rfl, rfl, rfl⟩, rfl⟩
  case round =>
    obtain ⟨⟨hk, rfl, rfl⟩ | ⟨hk, rfl, rfl⟩ | ⟨hk, rfl, rfl⟩, rfl⟩ := hrel
    · go_wp2_with (first | (go_at_call 31; refine (HX.out.2.2.1 _).mono ?_; rintro e w1 ⟨rfl, rfl⟩) | (go_at_call 30; refine (set_bits X 11 (bV B 0) HX.out.1 (by decide) (bV_01 _ _) _).mono ?_; rintro e w1 ⟨rfl, rfl⟩))
      go_roundg 1
      case measure => omega
      case rel => exact ⟨.inr (.inl ⟨rfl, rfl, rfl⟩), rfl⟩
    · go_wp2_with (first | (go_at_call 31; refine (HX.out.2.2.2 _).mono ?_; rintro e w1 ⟨rfl, rfl⟩) | (go_at_call 30; refine (set_bits (sV X 11 (bV B 0)) 12 (bV B 1) HX.out.2.1 (by decide) (bV_01 _ _) _).mono ?_; rintro e w1 ⟨rfl, rfl⟩))
      go_roundg 0
      case measure => omega
      case rel => exact ⟨.inr (.inr ⟨rfl, rfl, rfl⟩), rfl⟩
    · go_wp2
      go_ret
      exact ⟨rfl, rfl⟩

end Go.Proofs.YtkebphpfedgokaaDoor
