/-
  The reference's Back.
-/
import Derived.Test.YtkebphpfedgokaaDoorRefk
set_option linter.unusedVariables false
set_option linter.unusedSimpArgs false
namespace Go.Proofs.YtkebphpfedgokaaDoor
open Go.RowKit Go.Lib Go.Val

theorem two_off (y : Int) : tSet (tSet y 2048 false) 4096 false = bits .andNot .u32 y 6144 := by
  refine eq_of_hb (w32_tSet _ _ _) (w32_bits (.inr (.inr rfl)) _ _) fun k hk => ?_
  rw [hb_tSet _ _ _ k hk, hb_tSet _ _ _ k hk, hb_andNot _ _ k hk, mask6144 k hk, mask2048 k hk, mask4096 k hk]
  cases hb y k <;> cases k == 11 <;> cases k == 12 <;> rfl
theorem field_priv (x : Int) (hx : W32 x) (n : Nat) (hn : sPriv x = (n : Int)) (w : World) : Calls Tryd.prog 28 #[.int .u32 x, .int .i64 11, .int .i64 2] w fun e w' => e = .returned (.int .u32 (n : Int)) ∧ w = w' := by
  have hp := priv_bits x hx
  obtain ⟨X, rfl⟩ : ∃ n : Nat, x = n := ⟨x.toNat, by have := hx.1; omega⟩
  have hX : X < 4294967296 := by have := hx.2; omega
  have h := field_two X hX w
  have e : sV (sV 0 0 (bV X 11)) 1 (bV X 12) = n := by
    rw [hb_nat X 11 (by decide), hb_nat X 12 (by decide)] at hp
    unfold sPriv at hn
    rw [hp] at hn
    rw [sV_zero]
    have h1 : bV X 11 = X / 2 ^ 11 % 2 := rfl
    have h2 : bV X 12 = X / 2 ^ 12 % 2 := rfl
    rw [← h1, ← h2] at hn
    rcases bV_01 X 11 with a | a <;> rcases bV_01 X 12 with b | b <;> rw [a, b] at hn ⊢
    · have h3 : IntKind.i64.wrap ((if decide (0 = 1) = true then (1 : Int) else 0) + (if decide (0 = 1) = true then 2 else 0)) = 0 := by decide
      rw [h3] at hn
      have h4 : sV 0 1 0 = 0 := by decide
      omega
    · have h3 : IntKind.i64.wrap ((if decide (0 = 1) = true then (1 : Int) else 0) + (if decide (1 = 1) = true then 2 else 0)) = 2 := by decide
      rw [h3] at hn
      have h4 : sV 0 1 1 = 2 := by decide
      omega
    · have h3 : IntKind.i64.wrap ((if decide (1 = 1) = true then (1 : Int) else 0) + (if decide (0 = 1) = true then 2 else 0)) = 1 := by decide
      rw [h3] at hn
      have h4 : sV 1 1 0 = 1 := by decide
      omega
    · have h3 : IntKind.i64.wrap ((if decide (1 = 1) = true then (1 : Int) else 0) + (if decide (1 = 1) = true then 2 else 0)) = 3 := by decide
      rw [h3] at hn
      have h4 : sV 1 1 1 = 3 := by decide
      omega
  rw [e] at h
  exact h
abbrev privO : Obj := .cells #[.int .i64 0, .int .i64 1, .int .i64 0, .int .i64 3] 3

end Go.Proofs.YtkebphpfedgokaaDoor
