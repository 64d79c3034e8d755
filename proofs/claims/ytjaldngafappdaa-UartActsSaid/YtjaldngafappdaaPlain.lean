/-
  Plain arithmetic: low bytes of words, and their bits. No program in sight.
-/
import Derived.Test.YtjaldngafappdaaUw
namespace Go.Proofs.Ytjaldngafappdaa
open Go

def u (x : BitVec 32) : Int := (x.toNat : Int)

theorem u_of (x : Int) (h : 0 ≤ x ∧ x < 4294967296) : ∃ a, x = u a := ⟨BitVec.ofNat 32 x.toNat, by
  simp only [u, BitVec.toNat_ofNat]
  rw [Nat.mod_eq_of_lt (by omega)]
  omega⟩

theorem ofInt_u (a : BitVec 32) : BitVec.ofInt 32 (u a) = a := by
  apply BitVec.eq_of_toNat_eq
  simp [u]

theorem wrap_u (a : BitVec 32) : IntKind.u32.wrap (a.toNat : Int) = u a := by
  have := a.isLt
  simp only [IntKind.wrap_u32', u]
  omega

theorem and_u (a b : BitVec 32) : bits .and .u32 (u a) (u b) = u (a &&& b) := by
  show IntKind.u32.wrap ((BitVec.ofInt 32 (u a) &&& BitVec.ofInt 32 (u b)).toNat : Int) = _
  rw [ofInt_u, ofInt_u, wrap_u]

/-- The low byte of a word. -/
def low (v : Int) : UInt8 := UInt8.ofNat (v.toNat % 256)

theorem low_u (x : BitVec 32) : ((low (u x)).toNat : Int) = u (x &&& 255#32) := by
  have e : (x &&& 255#32).toNat = x.toNat % 256 := by
    rw [BitVec.toNat_and]
    exact Nat.and_two_pow_sub_one_eq_mod x.toNat 8
  simp only [u, e, low, Int.toNat_natCast]
  simp

theorem low_and (v : Int) (h : 0 ≤ v ∧ v < 4294967296) : bits .and .u32 v 255 = ((low v).toNat : Int) := by
  obtain ⟨x, rfl⟩ := u_of v h
  rw [low_u]
  exact and_u x 255#32

theorem low_bit (v : Int) (h : 0 ≤ v ∧ v < 4294967296) (k : BitVec 32) (hk : 255#32 &&& k = k) : bits .and .u32 ((low v).toNat : Int) (u k) = bits .and .u32 v (u k) := by
  obtain ⟨x, rfl⟩ := u_of v h
  rw [low_u, and_u, and_u, BitVec.and_assoc, hk]

theorem low_128 (v : Int) (h : 0 ≤ v ∧ v < 4294967296) : bits .and .u32 ((low v).toNat : Int) 128 = bits .and .u32 v 128 := low_bit v h 128#32 (by decide)
theorem low_1 (v : Int) (h : 0 ≤ v ∧ v < 4294967296) : bits .and .u32 ((low v).toNat : Int) 1 = bits .and .u32 v 1 := low_bit v h 1#32 (by decide)
theorem low_2 (v : Int) (h : 0 ≤ v ∧ v < 4294967296) : bits .and .u32 ((low v).toNat : Int) 2 = bits .and .u32 v 2 := low_bit v h 2#32 (by decide)
theorem and_1 (v : Int) (h : 0 ≤ v ∧ v < 4294967296) : bits .and .u32 v 1 = v % 2 := by
  obtain ⟨x, rfl⟩ := u_of v h
  refine (and_u x 1#32).trans ?_
  have e : (x &&& 1#32).toNat = x.toNat % 2 := by
    rw [BitVec.toNat_and]
    exact Nat.and_two_pow_sub_one_eq_mod x.toNat 1
  simp only [u, e]
  omega
end Go.Proofs.Ytjaldngafappdaa
