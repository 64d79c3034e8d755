/-
  The reference's bit arithmetic: power, bit, set, Field, Put.
-/
import Derived.Test.YtkebphpfedgokaaDoorKw
import Derived.Deep.LoopGhost
set_option linter.unusedVariables false
set_option linter.unusedSimpArgs false
namespace Go.Proofs.YtkebphpfedgokaaDoor
open Go.RowKit Go.Lib

theorem int_ret1 {k : IntKind} {a b : Int} (h : a = b) : Ending.returned (.int k a) = .returned (.int k b) := by rw [h]
set_option maxRecDepth 100000 in
theorem power_calls (n : Nat) (hn : n ≤ 31) (w : World) : Calls Tryd.prog 32 #[.int .i64 (n : Int)] w fun e w' => e = .returned (.int .u32 ((2 ^ n : Nat) : Int)) ∧ w = w' := by
  go_enter Tryd.func32, Tryd.ntmps32
  go_wp2
  go_loopg [3, 4] n (fun k p i wr => ∃ j : Nat, j + k = n ∧ i = .int .i64 (j : Int) ∧ p = .int .u32 ((2 ^ j : Nat) : Int) ∧ w = wr)
  case atStart => exact ⟨0, by omega, rfl, rfl, rfl⟩
  case round =>
    obtain ⟨j, hj, rfl, rfl, rfl⟩ := hrel
    by_cases hjn : j < n
    · have hlt : ((j : Int) < n) = True := eq_true (by omega)
      have h31 : 2 ^ (j + 1) ≤ 2 ^ 31 := Nat.pow_le_pow_right (by decide) (by omega)
      have hs : (2 : Nat) ^ (j + 1) = 2 ^ j * 2 := Nat.pow_succ 2 j
      rw [hs] at h31
      have HS := _root_.Go.Lib.hid hs
      clear hs
      generalize (2 : Nat) ^ j = Q at *
      have hQ : (Q : Int) * 2 < 4294967296 := by omega
      have hQ2 : IntKind.u32.wrap ((Q : Int) * 2) = (Q : Int) * 2 := by rw [IntKind.wrap_u32']; omega
      go_wp2
      go_roundg (n - (j + 1))
      case measure => omega
      case rel => exact ⟨j + 1, by omega, by first | rfl | go_num, by rw [HS.out, Int.natCast_mul]; rfl, rfl⟩
    · have hlt : ((j : Int) < n) = False := eq_false (by omega)
      obtain rfl : j = n := by omega
      go_wp2
      go_ret
      exact ⟨rfl, rfl⟩

/-- A bit of a number. -/
def bV (X at' : Nat) : Nat := X / 2 ^ at' % 2
theorem bV_01 (X at' : Nat) : bV X at' = 0 ∨ bV X at' = 1 := Nat.mod_two_eq_zero_or_one _
set_option maxRecDepth 100000 in
theorem bit_calls (X at' : Nat) (hX : X < 4294967296) (ha : at' ≤ 31) (w : World) : Calls Tryd.prog 31 #[.int .u32 (X : Int), .int .i64 (at' : Int)] w fun e w' => e = .returned (.int .u32 ((bV X at' : Nat) : Int)) ∧ w = w' := by
  have hp : 0 < 2 ^ at' := Nat.two_pow_pos at'
  have h31 : 2 ^ at' ≤ 2 ^ 31 := Nat.pow_le_pow_right (by decide) ha
  unfold bV
  obtain ⟨Q, hQ⟩ : ∃ Q, 2 ^ at' = Q := ⟨_, rfl⟩
  rw [hQ] at hp h31 ⊢
  obtain ⟨Z, hZ⟩ : ∃ Z, X / Q = Z := ⟨_, rfl⟩
  have hle : Z ≤ X := by rw [← hZ]; exact Nat.div_le_self _ _
  have d1 : (X : Int) / (Q : Int) = (Z : Int) := by rw [← hZ]; rfl
  have d2 : (X : Int).tdiv (Q : Int) = (Z : Int) := by rw [Int.tdiv_eq_ediv_of_nonneg (by omega)]; exact d1
  obtain ⟨Y, hY⟩ : ∃ Y, Z % 2 = Y := ⟨_, rfl⟩
  have d3 : (Z : Int) % 2 = (Y : Int) := by omega
  have d4 : (Z : Int).tmod 2 = (Y : Int) := by rw [Int.tmod_eq_emod_of_nonneg (by omega)]; exact d3
  have q0 : ((Q : Int) == 0) = false := beq_false_of_ne (by omega)
  have q1 : ¬ (Q : Int) = 0 := by omega
  have q2 : ¬ Q = 0 := by omega
  have HQ := _root_.Go.Lib.hid hQ
  rw [hZ, hY]
  clear hZ hQ hY
  have a1 : ((at' : Int) > 31) = False := eq_false (by omega)
  have a2 : ((at' : Int) < 0) = False := eq_false (by omega)
  go_enter Tryd.func31, Tryd.ntmps31
  go_wp2_with (go_at_call 32; refine (power_calls at' ha _).mono ?_; rw [HQ.out]; rintro e w1 ⟨rfl, rfl⟩)
  go_ret
  exact ⟨by first | rfl | exact int_ret1 (by omega), rfl⟩

/-- A number with another bit. -/
def sV (X at' b : Nat) : Nat := X - bV X at' * 2 ^ at' + b * 2 ^ at'
theorem bit_le (X at' : Nat) : bV X at' * 2 ^ at' ≤ X := by
  have h1 := Nat.div_add_mod X (2 ^ at')
  have h2 : bV X at' ≤ X / 2 ^ at' := Nat.mod_le _ _
  have h3 : bV X at' * 2 ^ at' ≤ X / 2 ^ at' * 2 ^ at' := Nat.mul_le_mul_right _ h2
  rw [Nat.mul_comm (2 ^ at')] at h1
  omega
theorem bit_room (X at' : Nat) (hX : X < 4294967296) (ha : at' ≤ 31) (h : bV X at' = 0) : X + 2 ^ at' < 4294967296 := by
  have h1 := Nat.div_add_mod X (2 ^ at')
  have hp : 0 < 2 ^ at' := Nat.two_pow_pos at'
  have h2 := Nat.mod_lt X hp
  have e : 2 ^ at' * 2 ^ (32 - at') = 4294967296 := by rw [← Nat.pow_add, show at' + (32 - at') = 32 by omega]
  have e2 : 2 ^ (32 - at') = 2 * 2 ^ (31 - at') := by rw [show 32 - at' = (31 - at') + 1 by omega, Nat.pow_succ, Nat.mul_comm]
  unfold bV at h
  have h3 : X / 2 ^ at' < 2 ^ (32 - at') := Nat.div_lt_of_lt_mul (by rw [e]; exact hX)
  generalize 2 ^ (31 - at') = R at *
  have h4 : X / 2 ^ at' + 2 ≤ 2 ^ (32 - at') := by omega
  have h5 : 2 ^ at' * (X / 2 ^ at' + 2) ≤ 2 ^ at' * 2 ^ (32 - at') := Nat.mul_le_mul_left _ h4
  rw [e, Nat.mul_add] at h5
  omega
set_option maxRecDepth 100000 in
theorem set_bits (X at' b : Nat) (hX : X < 4294967296) (ha : at' ≤ 31) (hb : b = 0 ∨ b = 1) (w : World) : Calls Tryd.prog 30 #[.int .u32 (X : Int), .int .i64 (at' : Int), .int .u32 (b : Int)] w fun e w' => e = .returned (.int .u32 ((sV X at' b : Nat) : Int)) ∧ w = w' := by
  have hp : 0 < 2 ^ at' := Nat.two_pow_pos at'
  have h31 : 2 ^ at' ≤ 2 ^ 31 := Nat.pow_le_pow_right (by decide) ha
  have hle := bit_le X at'
  have hroom := bit_room X at' hX ha
  unfold sV
  obtain ⟨Q, hQ⟩ : ∃ Q, 2 ^ at' = Q := ⟨_, rfl⟩
  rw [hQ] at hp h31 hle hroom ⊢
  have HQ := _root_.Go.Lib.hid hQ
  clear hQ
  have a1 : ((at' : Int) > 31) = False := eq_false (by omega)
  have a2 : ((at' : Int) < 0) = False := eq_false (by omega)
  have q3 : (Q : Int) < 4294967296 := by omega
  rcases bV_01 X at' with h | h <;> rw [h] at hle hroom ⊢ <;> rcases hb with rfl | rfl
  all_goals
    have H := _root_.Go.Lib.hid h
    clear h
    simp only [Nat.zero_mul, Nat.one_mul, forall_const] at hle hroom
    try simp only [Nat.zero_ne_one, Nat.one_ne_zero, false_implies] at hroom
    go_enter Tryd.func30, Tryd.ntmps30
    go_wp2_with (first | (go_at_call 31; refine (bit_calls X at' hX ha _).mono ?_; rw [H.out]; rintro e w1 ⟨rfl, rfl⟩) | (go_at_call 32; refine (power_calls at' ha _).mono ?_; rw [HQ.out]; rintro e w1 ⟨rfl, rfl⟩))
    go_ret
    exact ⟨by first | rfl | exact int_ret1 (by omega), rfl⟩

theorem sV_zero (b : Nat) : sV 0 0 b = b := by simp [sV, bV]
set_option maxRecDepth 100000 in
/-- One bit. -/
theorem field_one (X at' : Nat) (hX : X < 4294967296) (ha : at' ≤ 31) (w : World) : Calls Tryd.prog 28 #[.int .u32 (X : Int), .int .i64 (at' : Int), .int .i64 1] w fun e w' => e = .returned (.int .u32 ((bV X at' : Nat) : Int)) ∧ w = w' := by
  have a1 : ((at' : Int) < 32) = True := eq_true (by omega)
  go_enter Tryd.func28, Tryd.ntmps28
  go_wp2
  go_loopg [7, 8] 1 (fun k v i wr => ((k = 1 ∧ i = .int .i64 0 ∧ v = .int .u32 0) ∨ (k = 0 ∧ i = .int .i64 1 ∧ v = .int .u32 ((bV X at' : Nat) : Int))) ∧ w = wr)
  case atStart => exact ⟨.inl ⟨rfl, rfl, rfl⟩, rfl⟩
  case round =>
    obtain ⟨⟨hk, rfl, rfl⟩ | ⟨hk, rfl, rfl⟩, rfl⟩ := hrel
    · have hS := set_bits 0 0 (bV X at') (by decide) (by decide) (bV_01 X at')
      rw [sV_zero] at hS
      have HS := _root_.Go.Lib.hid hS
      clear hS
      go_wp2_with (first | (go_at_call 31; refine (bit_calls X at' hX ha _).mono ?_; rintro e w1 ⟨rfl, rfl⟩) | (go_at_call 30; refine (HS.out _).mono ?_; rintro e w1 ⟨rfl, rfl⟩))
      go_roundg 0
      case measure => omega
      case rel => exact ⟨.inr ⟨rfl, rfl, rfl⟩, rfl⟩
    · go_wp2
      go_ret
      exact ⟨rfl, rfl⟩
set_option maxRecDepth 100000 in
theorem put_one (X at' b : Nat) (hX : X < 4294967296) (ha : at' ≤ 31) (hb : b = 0 ∨ b = 1) (w : World) : Calls Tryd.prog 27 #[.int .u32 (X : Int), .int .i64 (at' : Int), .int .i64 1, .int .u32 (b : Int)] w fun e w' => e = .returned (.int .u32 ((sV X at' b : Nat) : Int)) ∧ w = w' := by
  have a1 : ((at' : Int) < 32) = True := eq_true (by omega)
  have hB := bit_calls b 0 (by omega) (by decide)
  rw [show bV b 0 = b by rcases hb with rfl | rfl <;> rfl] at hB
  have HB := _root_.Go.Lib.hid hB
  have HB2 := _root_.Go.Lib.hid hb
  clear hB hb
  go_enter Tryd.func27, Tryd.ntmps27
  go_wp2
  go_loopg [0, 9] 1 (fun k v i wr => ((k = 1 ∧ i = .int .i64 0 ∧ v = .int .u32 (X : Int)) ∨ (k = 0 ∧ i = .int .i64 1 ∧ v = .int .u32 ((sV X at' b : Nat) : Int))) ∧ w = wr)
  case atStart => exact ⟨.inl ⟨rfl, rfl, rfl⟩, rfl⟩
  case round =>
    obtain ⟨⟨hk, rfl, rfl⟩ | ⟨hk, rfl, rfl⟩, rfl⟩ := hrel
    · go_wp2_with (first | (go_at_call 31; refine (HB.out _).mono ?_; rintro e w1 ⟨rfl, rfl⟩) | (go_at_call 30; refine (set_bits X at' b hX ha HB2.out _).mono ?_; rintro e w1 ⟨rfl, rfl⟩))
      go_roundg 0
      case measure => omega
      case rel => exact ⟨.inr ⟨rfl, rfl, rfl⟩, rfl⟩
    · go_wp2
      go_ret
      exact ⟨rfl, rfl⟩
end Go.Proofs.YtkebphpfedgokaaDoor
