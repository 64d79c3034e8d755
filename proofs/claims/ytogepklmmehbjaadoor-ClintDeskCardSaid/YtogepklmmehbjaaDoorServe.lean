/-
  Who is served: plain arithmetic of the desk's three words.
-/
import Derived.Test.YtogepklmmehbjaaDoorAlive
set_option linter.unusedVariables false
set_option linter.unusedSimpArgs false
namespace Go.Proofs.YtogepklmmehbjaaDoor
open Go.RowKit Go.Lib

theorem sub_u (x y : BitVec 32) (h : y &&& x = y) : (x &&& ~~~y).toNat + y.toNat = x.toNat := by
  have h0 : (x &&& ~~~y) &&& y = 0#32 := by
    ext i hi
    simp
  have h1 : (x &&& ~~~y) ||| y = x := by
    ext i hi
    have := congrArg (·.getLsbD i) h
    simp only [BitVec.getLsbD_and] at this
    simp only [BitVec.getElem_or, BitVec.getElem_and, BitVec.getElem_not]
    rw [BitVec.getLsbD_eq_getElem hi, BitVec.getLsbD_eq_getElem hi] at this
    cases h2 : x[i] <;> cases h3 : y[i] <;> simp_all
  have h2 : (x &&& ~~~y) + y = x := by rw [BitVec.add_eq_or_of_and_eq_zero _ _ h0, h1]
  have h3 : (x &&& ~~~y).toNat ≤ 4294967295 - y.toNat := by
    rw [BitVec.toNat_and]
    refine Nat.le_trans Nat.and_le_right ?_
    rw [BitVec.toNat_not]
    exact Nat.le_refl _
  have h4 := congrArg BitVec.toNat h2
  rw [BitVec.toNat_add] at h4
  have := y.isLt
  have := x.isLt
  omega
theorem ofNat_and (X Y : Nat) (hX : X < 4294967296) (hY : Y < 4294967296) (h : Y &&& X = Y) : BitVec.ofNat 32 Y &&& BitVec.ofNat 32 X = BitVec.ofNat 32 Y := by
  apply BitVec.eq_of_toNat_eq
  rw [BitVec.toNat_and, BitVec.toNat_ofNat, BitVec.toNat_ofNat, Nat.mod_eq_of_lt hX, Nat.mod_eq_of_lt hY, h]
theorem u_nat (X : Nat) (hX : X < 4294967296) : (X : Int) = u (BitVec.ofNat 32 X) := by
  unfold u
  rw [BitVec.toNat_ofNat, Nat.mod_eq_of_lt hX]
/-- A part of a word taken off. -/
theorem andNot_sub (X Y : Nat) (hX : X < 4294967296) (h : Y &&& X = Y) : bits .andNot .u32 (X : Int) (Y : Int) = ((X - Y : Nat) : Int) ∧ Y ≤ X := by
  have hle : Y ≤ X := by rw [← h]; exact Nat.and_le_right
  have hY : Y < 4294967296 := by omega
  refine ⟨?_, hle⟩
  rw [u_nat X hX, u_nat Y hY, andNot_u]
  have := sub_u _ _ (ofNat_and X Y hX hY h)
  rw [BitVec.toNat_ofNat, BitVec.toNat_ofNat, Nat.mod_eq_of_lt hX, Nat.mod_eq_of_lt hY] at this
  unfold u
  omega
/-- The part put back. -/
theorem or_back (X Y : Nat) (hX : X < 4294967296) (h : Y &&& X = Y) : bits .or .u32 ((X - Y : Nat) : Int) (Y : Int) = (X : Int) := by
  obtain ⟨h1, hle⟩ := andNot_sub X Y hX h
  have hY : Y < 4294967296 := by omega
  rw [← h1, u_nat X hX, u_nat Y hY, andNot_u, or_u]
  congr 1
  have hs := ofNat_and X Y hX hY h
  generalize BitVec.ofNat 32 X = x at *
  generalize BitVec.ofNat 32 Y = y at *
  ext i hi
  have := congrArg (·.getLsbD i) hs
  simp only [BitVec.getLsbD_and] at this
  rw [BitVec.getLsbD_eq_getElem hi, BitVec.getLsbD_eq_getElem hi] at this
  simp only [BitVec.getElem_or, BitVec.getElem_and, BitVec.getElem_not]
  cases h2 : x[i] <;> cases h3 : y[i] <;> simp_all
theorem or_add (Y i : Nat) (hY : Y < 2 ^ i) (hi : i < 32) : bits .or .u32 (Y : Int) ((2 : Int) ^ i % 4294967296) = ((Y + 2 ^ i : Nat) : Int) := by
  have h2 : (2 : Nat) ^ i < 2 ^ 32 := Nat.pow_lt_pow_right (by decide) hi
  have h3 : (2 : Nat) ^ i ≤ 2 ^ 31 := Nat.pow_le_pow_right (by decide) (by omega)
  have e : (2 : Int) ^ i % 4294967296 = ((2 ^ i : Nat) : Int) := by
    rw [Int.natCast_pow]
    have : ((2 : Int)) ^ i = ((2 ^ i : Nat) : Int) := by rw [Int.natCast_pow]; rfl
    show ((2 : Int)) ^ i % 4294967296 = ((2 : Nat) : Int) ^ i
    rw [this]
    omega
  rw [e, u_nat Y (by omega), u_nat (2 ^ i) (by omega), or_u]
  unfold u
  rw [BitVec.toNat_or, BitVec.toNat_ofNat, BitVec.toNat_ofNat, Nat.mod_eq_of_lt (show Y < 2 ^ 32 by omega), Nat.mod_eq_of_lt h2, Nat.or_comm]
  have := Nat.two_pow_add_eq_or_of_lt hY 1
  rw [Nat.mul_one] at this
  rw [← this]
  omega
theorem pow_cast (i : Nat) (hi : i < 32) : (2 : Int) ^ i % 4294967296 = ((2 ^ i : Nat) : Int) := by
  have h2 : (2 : Nat) ^ i < 2 ^ 32 := Nat.pow_lt_pow_right (by decide) hi
  have : ((2 : Int)) ^ i = ((2 ^ i : Nat) : Int) := by rw [Int.natCast_pow]; rfl
  rw [this]
  generalize (2 : Nat) ^ i = Q at *
  omega
theorem mod_part (X i : Nat) : (X % 2 ^ i) &&& X = X % 2 ^ i := by
  apply Nat.eq_of_testBit_eq
  intro j
  rw [Nat.testBit_and, Nat.testBit_mod_two_pow]
  cases X.testBit j <;> simp
theorem pow_part (X i : Nat) (h : X / 2 ^ i % 2 = 1) : 2 ^ i &&& X = 2 ^ i := by
  apply Nat.eq_of_testBit_eq
  intro j
  rw [Nat.testBit_and, Nat.testBit_two_pow]
  by_cases e : i = j
  · subst e
    rw [Nat.testBit_eq_decide_div_mod_eq, h]
    simp
  · simp [e]
theorem ctz_pow : ∀ (i f m : Nat), i < f → Lib.ctzFrom f (2 ^ i * (2 * m + 1)) = i
  | 0, f + 1, m, _ => by
    unfold Lib.ctzFrom
    rw [if_pos (by omega)]
  | i + 1, f + 1, m, h => by
    unfold Lib.ctzFrom
    have e : 2 ^ (i + 1) * (2 * m + 1) = 2 * (2 ^ i * (2 * m + 1)) := by rw [Nat.pow_succ, Nat.mul_comm (2 ^ i) 2, Nat.mul_assoc]
    rw [e, if_neg (by omega), show 2 * (2 ^ i * (2 * m + 1)) / 2 = 2 ^ i * (2 * m + 1) by omega, ctz_pow i f m (by omega)]
    omega
theorem ctz_of (i m : Nat) (hi : i < 32) : Lib.ctz 32 (2 ^ i * (2 * m + 1)) = i := by
  have hp : 0 < 2 ^ i := Nat.two_pow_pos i
  have : 2 ^ i * (2 * m + 1) ≠ 0 := by
    intro e
    rcases Nat.mul_eq_zero.1 e with h | h <;> omega
  unfold Lib.ctz
  rw [if_neg this]
  exact ctz_pow i 32 m hi

/-- What is taken off below bit i. -/
theorem top_part (X i : Nat) (h : X / 2 ^ i % 2 = 1) : X - X % 2 ^ i = 2 ^ i * (2 * (X / 2 ^ i / 2) + 1) := by
  have h1 := Nat.div_add_mod X (2 ^ i)
  have h2 : X / 2 ^ i = 2 * (X / 2 ^ i / 2) + 1 := by omega
  rw [← h2]
  omega
theorem mod_next (X i : Nat) : X % 2 ^ (i + 1) = X % 2 ^ i + 2 ^ i * (X / 2 ^ i % 2) := by
  rw [Nat.pow_succ, Nat.mod_mul]

/-- The desk when all below i are served. -/
def sD (a e : Int) (X i : Nat) : Dk := ⟨a, e, ((X % 2 ^ i : Nat) : Int)⟩
section
variable {a e : Int} {X : Nat}
theorem dW_sD (h : bits .and .u32 a e = (X : Int)) (hX : X < 4294967296) (i : Nat) : dW (sD a e X i) = ((X - X % 2 ^ i : Nat) : Int) := by
  show bits .andNot .u32 (bits .and .u32 a e) ((X % 2 ^ i : Nat) : Int) = _
  rw [h]
  exact (andNot_sub X _ hX (mod_part X i)).1
theorem serve_yes (h : bits .and .u32 a e = (X : Int)) (hX : X < 4294967296) (i : Nat) (hi : i < 32) (hb : X / 2 ^ i % 2 = 1) : dGet (sD a e X i) 8 = (i : Int) ∧ dGetS (sD a e X i) 8 = sD a e X (i + 1) := by
  have hp : 0 < 2 ^ i := Nat.two_pow_pos i
  have hw := dW_sD h hX i
  have ht := top_part X i hb
  have hne : dW (sD a e X i) ≠ 0 := by
    rw [hw, ht]
    intro e0
    have : 2 ^ i * (2 * (X / 2 ^ i / 2) + 1) = 0 := by omega
    rcases Nat.mul_eq_zero.1 this with h | h <;> omega
  have hc : Lib.ctz 32 (dW (sD a e X i)).toNat = i := by
    rw [hw, Int.toNat_natCast, ht]
    exact ctz_of i _ hi
  constructor
  · unfold dGet dNum
    rw [if_neg (by decide), if_neg (by decide), if_pos rfl, if_neg hne, hc]
  · unfold dGetS dServe
    rw [if_pos rfl, if_neg hne, hc]
    show (⟨a, e, bits .or .u32 ((X % 2 ^ i : Nat) : Int) ((2 : Int) ^ i % 4294967296)⟩ : Dk) = _
    rw [or_add _ i (Nat.mod_lt _ hp) hi]
    unfold sD
    rw [mod_next, hb, Nat.mul_one]
theorem serve_skip (i : Nat) (hb : X / 2 ^ i % 2 = 0) : sD a e X (i + 1) = sD a e X i := by
  unfold sD
  rw [mod_next, hb, Nat.mul_zero, Nat.add_zero]
theorem serve_done (h : bits .and .u32 a e = (X : Int)) (hX : X < 4294967296) : dW (sD a e X 32) = 0 := by
  rw [dW_sD h hX 32, Nat.mod_eq_of_lt hX]
  simp
theorem done_get (d : Dk) (h : dW d = 0) : dGet d 8 = 0 ∧ dGetS d 8 = d := by
  constructor
  · unfold dGet dNum
    rw [if_neg (by decide), if_neg (by decide), if_pos rfl, if_pos h]
    rfl
  · unfold dGetS dServe
    rw [if_pos rfl, if_pos h]
/-- One is set free. -/
def fD (a e : Int) (X k : Nat) : Dk := ⟨a, e, ((X - 2 ^ k : Nat) : Int)⟩
theorem free_set (hX : X < 4294967296) (k : Nat) (hk : k < 32) (hb : X / 2 ^ k % 2 = 1) : dSet (sD a e X 32) 8 (k : Int) = fD a e X k := by
  unfold dSet
  rw [if_neg (by decide), if_pos rfl, if_pos (by omega), Int.toNat_natCast]
  show (⟨a, e, bits .andNot .u32 ((X % 2 ^ 32 : Nat) : Int) ((2 : Int) ^ k % 4294967296)⟩ : Dk) = _
  rw [Nat.mod_eq_of_lt hX, pow_cast k hk, (andNot_sub X _ hX (pow_part X k hb)).1]
  rfl
theorem free_part (k : Nat) (hX : X < 4294967296) (hb : X / 2 ^ k % 2 = 1) : (X - 2 ^ k) &&& X = X - 2 ^ k := by
  obtain ⟨h1, h2⟩ := andNot_sub X _ hX (pow_part X k hb)
  have hY : 2 ^ k < 4294967296 := by omega
  rw [u_nat X hX, u_nat (2 ^ k) hY, andNot_u] at h1
  have e1 : X - 2 ^ k = (BitVec.ofNat 32 X &&& ~~~BitVec.ofNat 32 (2 ^ k)).toNat := by unfold u at h1; omega
  have e2 : X = (BitVec.ofNat 32 X).toNat := by rw [BitVec.toNat_ofNat, Nat.mod_eq_of_lt hX]
  have e3 : (BitVec.ofNat 32 X &&& ~~~BitVec.ofNat 32 (2 ^ k)) &&& BitVec.ofNat 32 X = BitVec.ofNat 32 X &&& ~~~BitVec.ofNat 32 (2 ^ k) := by
    ext i hi
    simp only [BitVec.getElem_and]
    cases (BitVec.ofNat 32 X)[i] <;> simp
  have e4 := congrArg BitVec.toNat e3
  rw [BitVec.toNat_and, ← e1, ← e2] at e4
  exact e4
theorem free_get (h : bits .and .u32 a e = (X : Int)) (hX : X < 4294967296) (k : Nat) (hk : k < 32) (hb : X / 2 ^ k % 2 = 1) : dGet (fD a e X k) 8 = (k : Int) ∧ dGetS (fD a e X k) 8 = sD a e X 32 := by
  have hp : 0 < 2 ^ k := Nat.two_pow_pos k
  have hle := (andNot_sub X _ hX (pow_part X k hb)).2
  have hw : dW (fD a e X k) = ((2 ^ k : Nat) : Int) := by
    show bits .andNot .u32 (bits .and .u32 a e) ((X - 2 ^ k : Nat) : Int) = _
    rw [h, (andNot_sub X _ hX (free_part k hX hb)).1]
    omega
  have hne : dW (fD a e X k) ≠ 0 := by rw [hw]; omega
  have hc : Lib.ctz 32 (dW (fD a e X k)).toNat = k := by
    rw [hw, Int.toNat_natCast]
    have := ctz_of k 0 hk
    simpa using this
  constructor
  · unfold dGet dNum
    rw [if_neg (by decide), if_neg (by decide), if_pos rfl, if_neg hne, hc]
  · unfold dGetS dServe
    rw [if_pos rfl, if_neg hne, hc]
    show (⟨a, e, bits .or .u32 ((X - 2 ^ k : Nat) : Int) ((2 : Int) ^ k % 4294967296)⟩ : Dk) = _
    rw [pow_cast k hk, or_back X _ hX (pow_part X k hb)]
    unfold sD
    rw [Nat.mod_eq_of_lt hX]
theorem ask_none (e s : Int) : dW ⟨bits .andNot .u32 0 1, e, s⟩ = 0 := by
  show bits .andNot .u32 (bits .and .u32 (bits .andNot .u32 0 1) e) s = 0
  have e0 : bits .andNot .u32 0 1 = 0 := by kernel_rfl
  have z : ∀ y : Int, (BitVec.ofInt 32 0 &&& BitVec.ofInt 32 y) = 0#32 := fun y => by ext i hi; simp
  have e1 : bits .and .u32 0 e = 0 := by
    show IntKind.u32.wrap ((BitVec.ofInt 32 0 &&& BitVec.ofInt 32 e).toNat : Int) = 0
    rw [z]; rfl
  rw [e0, e1]
  show IntKind.u32.wrap ((BitVec.ofInt 32 0 &&& ~~~BitVec.ofInt 32 s).toNat : Int) = 0
  have : (BitVec.ofInt 32 0 &&& ~~~BitVec.ofInt 32 s) = 0#32 := by ext i hi; simp
  rw [this]; rfl
end
/-- Both words, but for bit 0. -/
theorem both_of (x y : Int) (hx : 0 ≤ x ∧ x < 4294967296) (hy : 0 ≤ y ∧ y < 4294967296) : ∃ X : Nat, X < 4294967296 ∧ X % 2 = 0 ∧ bits .andNot .u32 (bits .and .u32 x y) 1 = (X : Int) ∧ bits .and .u32 (bits .andNot .u32 x 1) (bits .andNot .u32 y 1) = (X : Int) := by
  obtain ⟨p, rfl⟩ := u_of x hx
  obtain ⟨q, rfl⟩ := u_of y hy
  refine ⟨((p &&& q) &&& ~~~1#32).toNat, BitVec.isLt _, ?_, ?_, ?_⟩
  · have : ((p &&& q) &&& ~~~1#32).toNat.testBit 0 = false := by
      show ((p &&& q) &&& ~~~1#32).getLsbD 0 = false
      simp
    generalize ((p &&& q) &&& ~~~1#32).toNat = Z at this ⊢
    rw [Nat.testBit_zero, decide_eq_false_iff_not] at this
    omega
  · have e1 : bits .andNot .u32 (u (p &&& q)) 1 = u ((p &&& q) &&& ~~~1#32) := andNot_u _ 1#32
    rw [and_u, e1]
    rfl
  · have e1 : bits .andNot .u32 (u p) 1 = u (p &&& ~~~1#32) := andNot_u _ 1#32
    have e2 : bits .andNot .u32 (u q) 1 = u (q &&& ~~~1#32) := andNot_u _ 1#32
    rw [e1, e2, and_u]
    show u _ = u _
    congr 1
    ext i hi
    simp only [BitVec.getElem_and, BitVec.getElem_not]
    cases p[i] <;> cases q[i] <;> simp
end Go.Proofs.YtogepklmmehbjaaDoor
