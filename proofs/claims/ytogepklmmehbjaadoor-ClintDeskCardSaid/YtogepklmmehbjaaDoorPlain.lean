/-
  Bits of words as arithmetic; what the methods leave of all blocks; alive answers true.
-/
import Derived.Test.YtogepklmmehbjaaDoorDesk
set_option linter.unusedVariables false
set_option linter.unusedSimpArgs false
namespace Go.Proofs.YtogepklmmehbjaaDoor
open Go.RowKit Go.Lib

/-! ### Bits -/
def u (x : BitVec 32) : Int := (x.toNat : Int)
def U (x : BitVec 64) : Int := (x.toNat : Int)
theorem u_of (x : Int) (h : 0 ≤ x ∧ x < 4294967296) : ∃ a, x = u a := ⟨BitVec.ofNat 32 x.toNat, by
  simp only [u, BitVec.toNat_ofNat]
  rw [Nat.mod_eq_of_lt (by omega)]
  omega⟩
theorem U_of (x : Int) (h : 0 ≤ x ∧ x < 18446744073709551616) : ∃ a, x = U a := ⟨BitVec.ofNat 64 x.toNat, by
  simp only [U, BitVec.toNat_ofNat]
  rw [Nat.mod_eq_of_lt (by omega)]
  omega⟩
theorem ofInt_u (a : BitVec 32) : BitVec.ofInt 32 (u a) = a := by
  apply BitVec.eq_of_toNat_eq
  simp [u]
theorem ofInt_U (a : BitVec 64) : BitVec.ofInt 64 (U a) = a := by
  apply BitVec.eq_of_toNat_eq
  simp [U]
theorem wrap_u (a : BitVec 32) : IntKind.u32.wrap (a.toNat : Int) = u a := by
  have := a.isLt
  simp only [IntKind.wrap_u32', u]
  omega
theorem wrap_U (a : BitVec 64) : IntKind.u64.wrap (a.toNat : Int) = U a := by
  have := a.isLt
  rw [IntKind.wrap_u64]
  unfold U
  omega
theorem and_u (a b : BitVec 32) : bits .and .u32 (u a) (u b) = u (a &&& b) := by
  show IntKind.u32.wrap ((BitVec.ofInt 32 (u a) &&& BitVec.ofInt 32 (u b)).toNat : Int) = _
  rw [ofInt_u, ofInt_u, wrap_u]
theorem or_u (a b : BitVec 32) : bits .or .u32 (u a) (u b) = u (a ||| b) := by
  show IntKind.u32.wrap ((BitVec.ofInt 32 (u a) ||| BitVec.ofInt 32 (u b)).toNat : Int) = _
  rw [ofInt_u, ofInt_u, wrap_u]
theorem andNot_u (a b : BitVec 32) : bits .andNot .u32 (u a) (u b) = u (a &&& ~~~b) := by
  show IntKind.u32.wrap ((BitVec.ofInt 32 (u a) &&& ~~~BitVec.ofInt 32 (u b)).toNat : Int) = _
  rw [ofInt_u, ofInt_u, wrap_u]
theorem or_U (a b : BitVec 64) : bits .or .u64 (U a) (U b) = U (a ||| b) := by
  show IntKind.u64.wrap ((BitVec.ofInt 64 (U a) ||| BitVec.ofInt 64 (U b)).toNat : Int) = _
  rw [ofInt_U, ofInt_U, wrap_U]
theorem andNot_U (a b : BitVec 64) : bits .andNot .u64 (U a) (U b) = U (a &&& ~~~b) := by
  show IntKind.u64.wrap ((BitVec.ofInt 64 (U a) &&& ~~~BitVec.ofInt 64 (U b)).toNat : Int) = _
  rw [ofInt_U, ofInt_U, wrap_U]
theorem u_range (a : BitVec 32) : 0 ≤ u a ∧ u a < 4294967296 := by
  have := a.isLt
  unfold u
  omega
theorem half_at (i : Nat) (h : i < 64) : (4294967295#64)[i] = decide (i < 32) := by
  have e : 4294967295#64 = (BitVec.allOnes 32).setWidth 64 := by decide
  simp only [e, BitVec.getElem_setWidth, BitVec.getLsbD_allOnes]
theorem high_at (i : Nat) (h : i < 64) : (18446744069414584320#64)[i] = decide (32 ≤ i) := by
  have e : 18446744069414584320#64 = ~~~((BitVec.allOnes 32).setWidth 64) := by decide
  simp only [e, BitVec.getElem_not, BitVec.getElem_setWidth, BitVec.getLsbD_allOnes]
  by_cases hi : i < 32
  · simp [hi] <;> omega
  · simp [hi] <;> omega

theorem low_set (l v : Int) (hl : 0 ≤ l ∧ l < 18446744073709551616) (hv : 0 ≤ v ∧ v < 4294967296) : bits .or .u64 (bits .andNot .u64 l 4294967295) v = l / 4294967296 * 4294967296 + v := by
  obtain ⟨x, rfl⟩ := U_of l hl
  obtain ⟨y, rfl⟩ := U_of v (by omega)
  have e1 : bits .andNot .u64 (U x) 4294967295 = U (x &&& ~~~4294967295#64) := andNot_U x 4294967295#64
  rw [e1, or_U]
  have e2 : x &&& ~~~4294967295#64 = (x >>> 32) <<< 32 := by
    ext i hi
    simp only [BitVec.getElem_and, BitVec.getElem_not, half_at i hi, BitVec.getElem_shiftLeft, BitVec.getElem_ushiftRight]
    by_cases h32 : i < 32
    · simp [h32]
    · have : 32 + (i - 32) = i := by omega
      simp [h32, this, BitVec.getLsbD_eq_getElem hi]
  rw [e2]
  have hx := x.isLt
  unfold U at *
  have e3 : ((x >>> 32) <<< 32 ||| y).toNat = 2 ^ 32 * (x.toNat / 4294967296) ||| y.toNat := by
    rw [BitVec.toNat_or, BitVec.toNat_shiftLeft, BitVec.toNat_ushiftRight, Nat.shiftRight_eq_div_pow, Nat.shiftLeft_eq]
    congr 1
    rw [Nat.mod_eq_of_lt (by omega)]
    omega
  rw [e3, ← Nat.two_pow_add_eq_or_of_lt (by omega)]
  omega
theorem high_set (l v : Int) (hl : 0 ≤ l ∧ l < 18446744073709551616) (hv : 0 ≤ v ∧ v < 4294967296) : bits .or .u64 (bits .andNot .u64 l 18446744069414584320) (v * 4294967296) = l % 4294967296 + v * 4294967296 := by
  obtain ⟨x, rfl⟩ := U_of l hl
  obtain ⟨y, hy⟩ := U_of (v * 4294967296) (by omega)
  have e1 : bits .andNot .u64 (U x) 18446744069414584320 = U (x &&& ~~~18446744069414584320#64) := andNot_U x 18446744069414584320#64
  rw [e1, hy, or_U]
  have hx := x.isLt
  have e2 : (x &&& ~~~18446744069414584320#64).toNat = x.toNat % 4294967296 := by
    have e : ~~~18446744069414584320#64 = 4294967295#64 := by decide
    rw [e, BitVec.toNat_and]
    exact Nat.and_two_pow_sub_one_eq_mod x.toNat 32
  unfold U at *
  have e3 : ((x &&& ~~~18446744069414584320#64) ||| y).toNat = 2 ^ 32 * v.toNat ||| x.toNat % 4294967296 := by
    rw [BitVec.toNat_or, e2, Nat.or_comm]
    congr 1
    omega
  rw [e3, ← Nat.two_pow_add_eq_or_of_lt (by omega), ← hy]
  omega
theorem and_1 (v : Int) (h : 0 ≤ v ∧ v < 4294967296) : bits .and .u32 v 1 = v % 2 := by
  obtain ⟨x, rfl⟩ := u_of v h
  refine (and_u x 1#32).trans ?_
  have e : (x &&& 1#32).toNat = x.toNat % 2 := by
    rw [BitVec.toNat_and]
    exact Nat.and_two_pow_sub_one_eq_mod x.toNat 1
  simp only [u, e]
  omega
/-- off without bit 2. -/
theorem off_4 (off : Int) (h : 0 ≤ off ∧ off < 4294967296) (k : BitVec 32) (hk : k &&& 4#32 = 0#32) (h1 : off ≠ u k) (h2 : off ≠ u (k ||| 4#32)) : bits .andNot .u32 off 4 ≠ u k := by
  obtain ⟨x, rfl⟩ := u_of off h
  intro e
  have e1 : bits .andNot .u32 (u x) 4 = u (x &&& ~~~4#32) := andNot_u x 4#32
  rw [e1] at e
  have e2 : x &&& ~~~4#32 = k := BitVec.eq_of_toNat_eq (by unfold u at e; omega)
  have four : ∀ (i : Nat) (hi : i < 32), (4#32)[i] = decide (i = 2) := by decide
  by_cases hb : x[2] = true
  · apply h2
    rw [← e2]
    congr 1
    ext i hi
    simp only [BitVec.getElem_or, BitVec.getElem_and, BitVec.getElem_not, four i hi]
    by_cases h : i = 2
    · subst h; simp [hb]
    · simp [h]
  · apply h1
    rw [← e2]
    congr 1
    ext i hi
    simp only [BitVec.getElem_and, BitVec.getElem_not, four i hi]
    by_cases h : i = 2
    · subst h; simpa using hb
    · simp [h]
end Go.Proofs.YtogepklmmehbjaaDoor
