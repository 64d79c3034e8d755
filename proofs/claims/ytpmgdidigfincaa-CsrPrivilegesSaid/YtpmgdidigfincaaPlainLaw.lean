/-
  Plain arithmetic of 32-bit words: the reference's masks are the program's bit operations. No program in sight.
-/
import Derived.WalkKit
import Derived.OpenShut
namespace Go.Proofs.Ytpmgdidigfincaa
open Go

def u (x : BitVec 32) : Int := (x.toNat : Int)

theorem u_of (x : Int) (h : 0 ≤ x ∧ x < 4294967296) : ∃ a, x = u a := ⟨BitVec.ofNat 32 x.toNat, by
  simp only [u, BitVec.toNat_ofNat]
  rw [Nat.mod_eq_of_lt (by omega)]
  omega⟩

theorem ofInt_u (a : BitVec 32) : BitVec.ofInt 32 (u a) = a := by
  apply BitVec.eq_of_toNat_eq
  simp [u]

theorem wrap_u (a : BitVec 32) : IntKind.u32.wrap (a.toNat : Int) = u a := by
  have := a.isLt
  simp only [IntKind.wrap_u32', u]
  omega

theorem and_u (a b : BitVec 32) : bits .and .u32 (u a) (u b) = u (a &&& b) := by
  show IntKind.u32.wrap ((BitVec.ofInt 32 (u a) &&& BitVec.ofInt 32 (u b)).toNat : Int) = _
  rw [ofInt_u, ofInt_u, wrap_u]
theorem or_u (a b : BitVec 32) : bits .or .u32 (u a) (u b) = u (a ||| b) := by
  show IntKind.u32.wrap ((BitVec.ofInt 32 (u a) ||| BitVec.ofInt 32 (u b)).toNat : Int) = _
  rw [ofInt_u, ofInt_u, wrap_u]
theorem xor_u (a b : BitVec 32) : bits .xor .u32 (u a) (u b) = u (a ^^^ b) := by
  show IntKind.u32.wrap ((BitVec.ofInt 32 (u a) ^^^ BitVec.ofInt 32 (u b)).toNat : Int) = _
  rw [ofInt_u, ofInt_u, wrap_u]
theorem andNot_u (a b : BitVec 32) : bits .andNot .u32 (u a) (u b) = u (a &&& ~~~b) := by
  show IntKind.u32.wrap ((BitVec.ofInt 32 (u a) &&& ~~~BitVec.ofInt 32 (u b)).toNat : Int) = _
  rw [ofInt_u, ofInt_u, wrap_u]

theorem u_range (a : BitVec 32) : 0 ≤ u a ∧ u a < 4294967296 := by
  have := a.isLt
  unfold u
  omega
theorem not_u (m : BitVec 32) : 4294967295 - u m = u (~~~m) := by
  have := m.isLt
  simp only [u, BitVec.toNat_not]
  omega
theorem add_u (a b : BitVec 32) : (u a + u b) % 4294967296 = u (a + b) := by
  simp only [u, BitVec.toNat_add]
  omega
theorem mask_u (o v m : BitVec 32) : (bits .and .u32 (u o) (4294967295 - u m) + bits .and .u32 (u v) (u m)) % 4294967296 = u ((o &&& ~~~m) ||| (v &&& m)) := by
  rw [not_u, and_u, and_u, add_u, BitVec.add_eq_or_of_and_eq_zero]
  ext i
  simp
  intro h1 h2 h3
  simp_all

theorem ones_at (i : Nat) (h : i < 32) : (4294967295#32)[i] = true := by
  have e : 4294967295#32 = BitVec.allOnes 32 := rfl
  simp only [e, BitVec.getElem_allOnes]

theorem u_inj {a b : BitVec 32} (h : u a = u b) : a = b := BitVec.eq_of_toNat_eq (by unfold u at h; omega)

/-- The reference's mask is the program's. -/
theorem mask_eq (o v m : Int) (ho : 0 ≤ o ∧ o < 4294967296) (hv : 0 ≤ v ∧ v < 4294967296) (hm : 0 ≤ m ∧ m < 4294967296) :
    bits .andNot .u32 (bits .or .u32 (bits .andNot .u32 o m) (bits .and .u32 v m)) 0 = (bits .and .u32 o (4294967295 - m) + bits .and .u32 v m) % 4294967296 := by
  obtain ⟨o, rfl⟩ := u_of o ho
  obtain ⟨v, rfl⟩ := u_of v hv
  obtain ⟨m, rfl⟩ := u_of m hm
  rw [mask_u, andNot_u, and_u, or_u, show (0 : Int) = u 0#32 from rfl, andNot_u]
  congr 1
  ext i
  simp [ones_at]

theorem mask_eq' (o v m : Int) (ho : 0 ≤ o ∧ o < 4294967296) (hv : 0 ≤ v ∧ v < 4294967296) (hm : 0 ≤ m ∧ m < 4294967296) :
    bits .or .u32 (bits .andNot .u32 o m) (bits .and .u32 v m) = (bits .and .u32 o (4294967295 - m) + bits .and .u32 v m) % 4294967296 := by
  obtain ⟨o, rfl⟩ := u_of o ho
  obtain ⟨v, rfl⟩ := u_of v hv
  obtain ⟨m, rfl⟩ := u_of m hm
  rw [mask_u, andNot_u, and_u, or_u]

/-- A register that is written as it is. -/
theorem plain_eq (o v : Int) (ho : 0 ≤ o ∧ o < 4294967296) (hv : 0 ≤ v ∧ v < 4294967296) : bits .andNot .u32 (bits .or .u32 (bits .andNot .u32 o 4294967295) (bits .and .u32 v 4294967295)) 0 = v := by
  obtain ⟨o, rfl⟩ := u_of o ho
  obtain ⟨v, rfl⟩ := u_of v hv
  rw [show (4294967295 : Int) = u (~~~0#32) from rfl, andNot_u, and_u, or_u, show (0 : Int) = u 0#32 from rfl, andNot_u]
  congr 1
  ext i
  simp [ones_at]

/-- .. without bit 1. -/
theorem plain2_eq (o v : Int) (ho : 0 ≤ o ∧ o < 4294967296) (hv : 0 ≤ v ∧ v < 4294967296) : bits .andNot .u32 (bits .or .u32 (bits .andNot .u32 o 4294967295) (bits .and .u32 v 4294967295)) 2 = (bits .and .u32 v (4294967295 - 2) + bits .and .u32 0 2) % 4294967296 := by
  obtain ⟨o, rfl⟩ := u_of o ho
  obtain ⟨v, rfl⟩ := u_of v hv
  rw [show (4294967295 : Int) = u (~~~0#32) from rfl, andNot_u, and_u, or_u, show (2 : Int) = u 2#32 from rfl, andNot_u, show (0 : Int) = u 0#32 from rfl, and_u, show u (~~~0#32) - u 2#32 = u (~~~2#32) from rfl, and_u, add_u]
  congr 1
  have : (0#32 &&& 2#32) = 0#32 := rfl
  rw [this, BitVec.add_zero]
  congr 1
  ext i
  simp [ones_at]

/-- .. without bits 0 and 1. -/
theorem plain3_eq (o v : Int) (ho : 0 ≤ o ∧ o < 4294967296) (hv : 0 ≤ v ∧ v < 4294967296) : bits .andNot .u32 (bits .or .u32 (bits .andNot .u32 o 4294967295) (bits .and .u32 v 4294967295)) 3 = v - v % 4 := by
  have e : bits .or .u32 (bits .andNot .u32 o 4294967295) (bits .and .u32 v 4294967295) = v := by
    have := plain_eq o v ho hv
    have h0 : ∀ x, 0 ≤ x ∧ x < 4294967296 → bits .andNot .u32 x 0 = x := fun x hx => by
      obtain ⟨x, rfl⟩ := u_of x hx
      rw [show (0 : Int) = u 0#32 from rfl, andNot_u]
      congr 1
      ext i
      simp [ones_at]
    rw [h0] at this
    · exact this
    · have := bounds_u32 (wf_bits .or .u32 (bits .andNot .u32 o 4294967295) (bits .and .u32 v 4294967295))
      omega
  rw [e, u32_andNot v 3 hv.1 hv.2 (by decide) (by decide)]
  have h : v.toNat &&& (4294967295 - (3 : Int).toNat) = v.toNat - v.toNat % 4 := by
    apply Nat.eq_of_testBit_eq
    intro i
    have e1 : v.toNat - v.toNat % 4 = (v.toNat / 4) * 2 ^ 2 := by omega
    have hlt : v.toNat < 2 ^ 32 := by omega
    rw [e1, Nat.testBit_mul_two_pow, Nat.testBit_and]
    have e2 : (4294967295 - (3 : Int).toNat) = 1073741823 * 2 ^ 2 := rfl
    rw [e2, Nat.testBit_mul_two_pow, show (1073741823 : Nat) = 2 ^ 30 - 1 from rfl, Nat.testBit_two_pow_sub_one, show v.toNat / 4 = v.toNat >>> 2 from by rw [Nat.shiftRight_eq_div_pow], Nat.testBit_shiftRight]
    by_cases h2 : 2 ≤ i
    · have e3 : 2 + (i - 2) = i := by omega
      rw [e3]
      by_cases h3 : i - 2 < 30
      · simp [h2, h3]
      · have : v.toNat.testBit i = false := Nat.testBit_lt_two_pow (Nat.lt_of_lt_of_le hlt (Nat.pow_le_pow_right (by decide) (by omega)))
        simp [this]
    · simp [h2]
  rw [h]
  omega

theorem and_all (x : Int) (hx : 0 ≤ x ∧ x < 4294967296) : bits .and .u32 x 4294967295 = x := by
  obtain ⟨x, rfl⟩ := u_of x hx
  rw [show (4294967295 : Int) = u (~~~0#32) from rfl, and_u]
  congr 1
  ext i
  simp [ones_at]

/-- The two bits at which the status never holds 2. -/
theorem two_bits (v : Int) (hv : 0 ≤ v ∧ v < 4294967296) : (bits .and .u32 (v / 2048) 3 == 2) = decide (v / 2048 % 4 = 2) := by
  rw [u32_and (v / 2048) 3 (by omega) (by omega) (by decide) (by decide), show (3 : Int).toNat = 3 from rfl, nat_mask2]
  rw [Bool.eq_iff_iff, beq_iff_eq, decide_eq_true_iff]
  omega

theorem less_bit (v : Int) (hv : 0 ≤ v ∧ v < 4294967296) (h : v / 2048 % 4 = 2) : bits .andNot .u32 v 6144 = v - 4096 := by
  rw [u32_andNot v 6144 hv.1 hv.2 (by decide) (by decide)]
  have e : v.toNat &&& (4294967295 - (6144 : Int).toNat) = v.toNat / 8192 * 8192 + v.toNat % 2048 := by
    apply Nat.eq_of_testBit_eq
    intro i
    have hlt : v.toNat < 2 ^ 32 := by omega
    have e0 : v.toNat / 8192 * 8192 + v.toNat % 2048 = 2 ^ 13 * (v.toNat / 8192) + v.toNat % 2048 := by omega
    rw [e0, Nat.testBit_two_pow_mul_add _ (by omega), Nat.testBit_and]
    have e2 : (4294967295 - (6144 : Int).toNat) = 2 ^ 13 * 524287 + 2047 := rfl
    rw [e2, Nat.testBit_two_pow_mul_add _ (by omega), show (524287 : Nat) = 2 ^ 19 - 1 from rfl, show (2047 : Nat) = 2 ^ 11 - 1 from rfl, Nat.testBit_two_pow_sub_one, Nat.testBit_two_pow_sub_one, show v.toNat % 2048 = v.toNat % 2 ^ 11 from rfl, Nat.testBit_mod_two_pow,
      show v.toNat / 8192 = v.toNat >>> 13 from by rw [Nat.shiftRight_eq_div_pow], Nat.testBit_shiftRight]
    by_cases h1 : i < 13
    · simp only [h1, if_true]
      rw [Bool.and_comm]
    · have e3 : 13 + (i - 13) = i := by omega
      simp only [h1, if_false, e3]
      by_cases h3 : i - 13 < 19
      · simp [h3]
      · have : v.toNat.testBit i = false := Nat.testBit_lt_two_pow (Nat.lt_of_lt_of_le hlt (Nat.pow_le_pow_right (by decide) (by omega)))
        simp [this]
  rw [e]
  omega

/-- The halves of the counter. -/
theorem high_half (c v : Int) (hc : 0 ≤ c ∧ c < 18446744073709551616) (hv : 0 ≤ v ∧ v < 4294967296) : bits .or .u64 (bits .and .u64 c 4294967295) (v * 4294967296) = c % 4294967296 + v * 4294967296 := by
  rw [u64_and c 4294967295 hc.1 hc.2 (by decide) (by decide), show (4294967295 : Int).toNat = 2 ^ 32 - 1 from rfl, Nat.and_two_pow_sub_one_eq_mod]
  have hlt : c.toNat % 2 ^ 32 < 2 ^ 32 := Nat.mod_lt _ (by decide)
  rw [u64_or _ _ (by omega) (by omega) (by omega) (by omega)]
  have e : (v * 4294967296).toNat = 2 ^ 32 * v.toNat := by omega
  rw [e, Int.toNat_natCast, Nat.or_comm, ← Nat.two_pow_add_eq_or_of_lt hlt]
  omega
theorem low_half (c v : Int) (hc : 0 ≤ c ∧ c < 18446744073709551616) (hv : 0 ≤ v ∧ v < 4294967296) : bits .or .u64 (bits .andNot .u64 c 4294967295) v = c - c % 4294967296 + v := by
  rw [u64_andNot c 4294967295 hc.1 hc.2 (by decide) (by decide)]
  have hlt : c.toNat < 2 ^ 64 := by omega
  have e : c.toNat &&& (18446744073709551615 - (4294967295 : Int).toNat) = 2 ^ 32 * (c.toNat / 2 ^ 32) := by
    apply Nat.eq_of_testBit_eq
    intro i
    have e2 : (18446744073709551615 - (4294967295 : Int).toNat) = 2 ^ 32 * (2 ^ 32 - 1) := rfl
    rw [e2, Nat.testBit_and, Nat.testBit_two_pow_mul, Nat.testBit_two_pow_mul, Nat.testBit_two_pow_sub_one, ← Nat.shiftRight_eq_div_pow, Nat.testBit_shiftRight]
    by_cases h1 : i ≥ 32
    · have e3 : 32 + (i - 32) = i := by omega
      rw [e3]
      by_cases h3 : i - 32 < 32
      · simp [h1, h3]
      · have : c.toNat.testBit i = false := Nat.testBit_lt_two_pow (Nat.lt_of_lt_of_le hlt (Nat.pow_le_pow_right (by decide) (by omega)))
        simp [this]
    · simp [h1]
  rw [e, u64_or _ _ (by omega) (by omega) (by omega) (by omega), Int.toNat_natCast, ← Nat.two_pow_add_eq_or_of_lt (by omega)]
  omega
end Go.Proofs.Ytpmgdidigfincaa
