/-
  The reference's Take.
-/
import Derived.Test.YtkebphpfedgokaaDoorReftk
import Derived.Deep.Cut
set_option linter.unusedVariables false
set_option linter.unusedSimpArgs false
namespace Go.Proofs.YtkebphpfedgokaaDoor
open Go.RowKit Go.Lib Go.Val

theorem down_hb (s : St) (C : Nat) (hC : C < 4294967296) : sDown s (C : Int) = (decide (s.p ≤ 1) && hb (if tInt (C : Int) then s.x2 else s.x1) (C % 32)) := by
  unfold sDown tBit
  have hk : C % 32 < 32 := Nat.mod_lt _ (by decide)
  rw [and31_mod C hC]
  have e1 : ((C : Int) % 32).toNat = C % 32 := by omega
  rw [e1]
  generalize C % 32 = k at hk
  have h2 : (2 : Nat) ^ k < 2 ^ 32 := Nat.pow_lt_pow_right (by decide) hk
  have e : (2 : Int) ^ k % 4294967296 = ((2 ^ k : Nat) : Int) := by
    have e : (2 : Int) ^ k = ((2 ^ k : Nat) : Int) := by rw [Int.natCast_pow]; rfl
    rw [e]
    generalize (2 : Nat) ^ k = y at h2 ⊢
    omega
  rw [e, tHas_pow _ _ k hk (by
    rw [BitVec.ofInt_natCast]
    apply BitVec.eq_of_toNat_eq
    rw [BitVec.toNat_twoPow, BitVec.toNat_ofNat])]
theorem mask6152 : ∀ k, k < 32 → hb 6152 k = (k == 3 || k == 11 || k == 12) := by decide
theorem mask6144 : ∀ k, k < 32 → hb 6144 k = (k == 11 || k == 12) := by decide
theorem mask2048 : ∀ k, k < 32 → hb 2048 k = (k == 11) := by decide
theorem mask4096 : ∀ k, k < 32 → hb 4096 k = (k == 12) := by decide
theorem mask8 : ∀ k, k < 32 → hb 8 k = (k == 3) := by decide
theorem mask0 (k : Nat) : hb 0 k = false := hb_0 k
/-- The status behind a trap that is taken by the highest privilege. -/
theorem up_status (y p : Int) (hp : p = 0 ∨ p = 1 ∨ p = 3) : tSet (tSet (tSet y 8 false) 2048 (p == 1 || p == 3)) 4096 (p == 3) = bits .or .u32 (bits .andNot .u32 y 6152) (p * 2048) := by
  refine eq_of_hb (w32_tSet _ _ _) (w32_bits (.inr (.inl rfl)) _ _) fun k hk => ?_
  rw [hb_tSet _ _ _ k hk, hb_tSet _ _ _ k hk, hb_tSet _ _ _ k hk, hb_or, hb_andNot _ _ k hk, mask6152 k hk, mask8 k hk, mask2048 k hk, mask4096 k hk]
  rcases hp with rfl | rfl | rfl
  · rw [show (0 : Int) * 2048 = 0 by decide, mask0]
    cases hb y k <;> cases k == 3 <;> cases k == 11 <;> cases k == 12 <;> rfl
  · rw [show (1 : Int) * 2048 = 2048 by decide, mask2048 k hk]
    by_cases e : k = 11
    · subst e; cases hb y 11 <;> rfl
    · rw [show (k == 11) = false by simpa using e]
      cases hb y k <;> cases k == 3 <;> cases k == 12 <;> rfl
  · rw [show (3 : Int) * 2048 = 6144 by decide, mask6144 k hk]
    by_cases e : k = 11
    · subst e; cases hb y 11 <;> rfl
    · by_cases e2 : k = 12
      · subst e2; cases hb y 12 <;> rfl
      · rw [show (k == 11) = false by simpa using e, show (k == 12) = false by simpa using e2]
        cases hb y k <;> cases k == 3 <;> rfl
/-- Two bits put. -/
theorem put_two' (x : Int) (hx : W32 x) (B : Nat) (hB : B < 4) (w : World) : Calls Tryd.prog 27 #[.int .u32 x, .int .i64 11, .int .i64 2, .int .u32 (B : Int)] w fun e w' => e = .returned (.int .u32 (tSet (tSet x 2048 (B % 2 == 1)) 4096 (B / 2 % 2 == 1))) ∧ w = w' := by
  obtain ⟨X, rfl⟩ : ∃ n : Nat, x = n := ⟨x.toNat, by have := hx.1; omega⟩
  have hX : X < 4294967296 := by have := hx.2; omega
  have h := put_two X B hX hB w
  have e1 := sV_tSet X 11 (bV B 0) hX (by decide) (bV_01 _ _)
  have hY : sV X 11 (bV B 0) < 4294967296 := by
    have h2 := (w32_tSet (X : Int) ((2 ^ 11 : Nat) : Int) (bV B 0 == 1)).2
    rw [← e1] at h2
    omega
  rw [sV_tSet _ 12 (bV B 1) hY (by decide) (bV_01 _ _), e1] at h
  have e2 : bV B 0 = B % 2 := by unfold bV; simp
  have e3 : bV B 1 = B / 2 % 2 := by unfold bV; simp
  rw [e2, e3] at h
  exact h

end Go.Proofs.YtkebphpfedgokaaDoor
