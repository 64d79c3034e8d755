/-
  Single bits of words: what and, or, and-not, and set make of them.
-/
import Derived.Test.YtkebphpfedgokaaDoorState
set_option linter.unusedVariables false
set_option linter.unusedSimpArgs false
namespace Go.Proofs.YtkebphpfedgokaaDoor
open Go.RowKit Go.Lib

/-- Bit k of a word. -/
def hb (x : Int) (k : Nat) : Bool := (BitVec.ofInt 32 x).getLsbD k
theorem wrap_bv (v : BitVec 32) : IntKind.u32.wrap ((v.toNat : Nat) : Int) = (v.toNat : Int) := by
  have := v.isLt
  rw [IntKind.wrap_u32']; omega
theorem and_bv (x y : Int) : bits .and .u32 x y = ((BitVec.ofInt 32 x &&& BitVec.ofInt 32 y).toNat : Int) := wrap_bv _
theorem or_bv (x y : Int) : bits .or .u32 x y = ((BitVec.ofInt 32 x ||| BitVec.ofInt 32 y).toNat : Int) := wrap_bv _
theorem andNot_bv (x y : Int) : bits .andNot .u32 x y = ((BitVec.ofInt 32 x &&& ~~~BitVec.ofInt 32 y).toNat : Int) := wrap_bv _
theorem ofInt_bv (v : BitVec 32) : BitVec.ofInt 32 (v.toNat : Int) = v := by
  rw [BitVec.ofInt_natCast, BitVec.ofNat_toNat, BitVec.setWidth_eq]
theorem hb_and (x y : Int) (k : Nat) : hb (bits .and .u32 x y) k = (hb x k && hb y k) := by
  unfold hb; rw [and_bv, ofInt_bv, BitVec.getLsbD_and]
theorem hb_or (x y : Int) (k : Nat) : hb (bits .or .u32 x y) k = (hb x k || hb y k) := by
  unfold hb; rw [or_bv, ofInt_bv, BitVec.getLsbD_or]
theorem hb_andNot (x y : Int) (k : Nat) (hk : k < 32) : hb (bits .andNot .u32 x y) k = (hb x k && !hb y k) := by
  unfold hb; rw [andNot_bv, ofInt_bv, BitVec.getLsbD_and, BitVec.getLsbD_not]; simp [hk]
theorem hb_tSet (x b : Int) (t : Bool) (k : Nat) (hk : k < 32) : hb (tSet x b t) k = if t then hb x k || hb b k else hb x k && !hb b k := by
  unfold tSet; cases t
  · exact hb_andNot x b k hk
  · exact hb_or x b k
theorem bits_fits {o : BinOp} (ho : o = .and ∨ o = .or ∨ o = .andNot) (x y : Int) : 0 ≤ bits o .u32 x y ∧ bits o .u32 x y < 4294967296 := by
  rcases ho with rfl | rfl | rfl
  · rw [and_bv]; have := (BitVec.ofInt 32 x &&& BitVec.ofInt 32 y).isLt; omega
  · rw [or_bv]; have := (BitVec.ofInt 32 x ||| BitVec.ofInt 32 y).isLt; omega
  · rw [andNot_bv]; have := (BitVec.ofInt 32 x &&& ~~~BitVec.ofInt 32 y).isLt; omega
/-- A word and a power of two. -/
theorem and_pow (x b : Int) (k : Nat) (hk : k < 32) (h : BitVec.ofInt 32 b = BitVec.twoPow 32 k) : bits .and .u32 x b = if hb x k then ((2 ^ k : Nat) : Int) else 0 := by
  rw [and_bv, h, BitVec.and_twoPow]
  unfold hb
  cases (BitVec.ofInt 32 x).getLsbD k
  · simp
  · simp only [if_true]
    rw [BitVec.toNat_twoPow, Nat.mod_eq_of_lt (Nat.pow_lt_pow_right (by decide) hk)]
theorem tHas_pow (x b : Int) (k : Nat) (hk : k < 32) (h : BitVec.ofInt 32 b = BitVec.twoPow 32 k) : tHas x b = hb x k := by
  unfold tHas
  rw [and_pow x b k hk h]
  have : 0 < 2 ^ k := Nat.two_pow_pos k
  cases hb x k
  · simp
  · simp only [if_true]
    rw [bne_iff_ne]
    omega
theorem has2 (x : Int) : tHas x 2 = hb x 1 := tHas_pow x 2 1 (by decide) (by decide)
theorem has8 (x : Int) : tHas x 8 = hb x 3 := tHas_pow x 8 3 (by decide) (by decide)
theorem has32 (x : Int) : tHas x 32 = hb x 5 := tHas_pow x 32 5 (by decide) (by decide)
theorem has128 (x : Int) : tHas x 128 = hb x 7 := tHas_pow x 128 7 (by decide) (by decide)
theorem has256 (x : Int) : tHas x 256 = hb x 8 := tHas_pow x 256 8 (by decide) (by decide)
theorem has512 (x : Int) : tHas x 512 = hb x 9 := tHas_pow x 512 9 (by decide) (by decide)
theorem has2048 (x : Int) : tHas x 2048 = hb x 11 := tHas_pow x 2048 11 (by decide) (by decide)
theorem hasTop (x : Int) : tHas x 2147483648 = hb x 31 := tHas_pow x 2147483648 31 (by decide) (by decide)
theorem hb_nat (n k : Nat) (hk : k < 32) : hb (n : Int) k = decide (n / 2 ^ k % 2 = 1) := by
  unfold hb
  rw [BitVec.ofInt_natCast, BitVec.getLsbD_ofNat, Nat.testBit_eq_decide_div_mod_eq]
  simp [hk]
/-- Two bits of a word, shifted down. -/
theorem and3_nat (n : Nat) (hn : n < 4294967296) : bits .and .u32 ((n : Int) / 2048) 3 = ((n / 2048 % 4 : Nat) : Int) := by
  rw [and_bv]
  have e : ((n : Int) / 2048) = ((n / 2048 : Nat) : Int) := by omega
  rw [e, BitVec.ofInt_natCast, BitVec.toNat_and, BitVec.toNat_ofNat, Nat.mod_eq_of_lt (show n / 2048 < 2 ^ 32 by omega)]
  have h3 : (BitVec.ofInt 32 3).toNat = 2 ^ 2 - 1 := by decide
  rw [h3, Nat.and_two_pow_sub_one_eq_mod]
theorem priv_bits (x : Int) (hx : 0 ≤ x ∧ x < 4294967296) : bits .and .u32 (x / 2048) 3 = (if hb x 11 then 1 else 0) + (if hb x 12 then 2 else 0) := by
  obtain ⟨n, rfl⟩ : ∃ n : Nat, x = n := ⟨x.toNat, by omega⟩
  rw [and3_nat n (by omega), hb_nat n 11 (by decide), hb_nat n 12 (by decide)]
  have e1 : (2 : Nat) ^ 11 = 2048 := by decide
  have e2 : (2 : Nat) ^ 12 = 4096 := by decide
  rw [e1, e2]
  have h4 : n / 4096 = n / 2048 / 2 := by omega
  rw [h4]
  by_cases h1 : n / 2048 % 2 = 1 <;> by_cases h2 : n / 2048 / 2 % 2 = 1 <;> simp [h1, h2] <;> omega
end Go.Proofs.YtkebphpfedgokaaDoor
