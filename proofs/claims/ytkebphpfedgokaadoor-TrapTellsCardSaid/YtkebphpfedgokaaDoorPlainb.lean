/-
  Plain laws of Take and Back: the return is as it was.
-/
import Derived.Test.YtkebphpfedgokaaDoorBit
import Derived.Test.YtkebphpfedgokaaDoorRight
set_option linter.unusedVariables false
set_option linter.unusedSimpArgs false
namespace Go.Proofs.YtkebphpfedgokaaDoor
open Go.RowKit Go.Lib

theorem hbc_2_1 : hb 2 1 = true := by decide
theorem hbc_2_3 : hb 2 3 = false := by decide
theorem hbc_2_5 : hb 2 5 = false := by decide
theorem hbc_2_7 : hb 2 7 = false := by decide
theorem hbc_2_8 : hb 2 8 = false := by decide
theorem hbc_2_11 : hb 2 11 = false := by decide
theorem hbc_2_12 : hb 2 12 = false := by decide
theorem hbc_2_17 : hb 2 17 = false := by decide
theorem hbc_8_1 : hb 8 1 = false := by decide
theorem hbc_8_3 : hb 8 3 = true := by decide
theorem hbc_8_5 : hb 8 5 = false := by decide
theorem hbc_8_7 : hb 8 7 = false := by decide
theorem hbc_8_8 : hb 8 8 = false := by decide
theorem hbc_8_11 : hb 8 11 = false := by decide
theorem hbc_8_12 : hb 8 12 = false := by decide
theorem hbc_8_17 : hb 8 17 = false := by decide
theorem hbc_32_1 : hb 32 1 = false := by decide
theorem hbc_32_3 : hb 32 3 = false := by decide
theorem hbc_32_5 : hb 32 5 = true := by decide
theorem hbc_32_7 : hb 32 7 = false := by decide
theorem hbc_32_8 : hb 32 8 = false := by decide
theorem hbc_32_11 : hb 32 11 = false := by decide
theorem hbc_32_12 : hb 32 12 = false := by decide
theorem hbc_32_17 : hb 32 17 = false := by decide
theorem hbc_128_1 : hb 128 1 = false := by decide
theorem hbc_128_3 : hb 128 3 = false := by decide
theorem hbc_128_5 : hb 128 5 = false := by decide
theorem hbc_128_7 : hb 128 7 = true := by decide
theorem hbc_128_8 : hb 128 8 = false := by decide
theorem hbc_128_11 : hb 128 11 = false := by decide
theorem hbc_128_12 : hb 128 12 = false := by decide
theorem hbc_128_17 : hb 128 17 = false := by decide
theorem hbc_256_1 : hb 256 1 = false := by decide
theorem hbc_256_3 : hb 256 3 = false := by decide
theorem hbc_256_5 : hb 256 5 = false := by decide
theorem hbc_256_7 : hb 256 7 = false := by decide
theorem hbc_256_8 : hb 256 8 = true := by decide
theorem hbc_256_11 : hb 256 11 = false := by decide
theorem hbc_256_12 : hb 256 12 = false := by decide
theorem hbc_256_17 : hb 256 17 = false := by decide
theorem hbc_131072_1 : hb 131072 1 = false := by decide
theorem hbc_131072_3 : hb 131072 3 = false := by decide
theorem hbc_131072_5 : hb 131072 5 = false := by decide
theorem hbc_131072_7 : hb 131072 7 = false := by decide
theorem hbc_131072_8 : hb 131072 8 = false := by decide
theorem hbc_131072_11 : hb 131072 11 = false := by decide
theorem hbc_131072_12 : hb 131072 12 = false := by decide
theorem hbc_131072_17 : hb 131072 17 = true := by decide
theorem hbc_6144_1 : hb 6144 1 = false := by decide
theorem hbc_6144_3 : hb 6144 3 = false := by decide
theorem hbc_6144_5 : hb 6144 5 = false := by decide
theorem hbc_6144_7 : hb 6144 7 = false := by decide
theorem hbc_6144_8 : hb 6144 8 = false := by decide
theorem hbc_6144_11 : hb 6144 11 = true := by decide
theorem hbc_6144_12 : hb 6144 12 = true := by decide
theorem hbc_6144_17 : hb 6144 17 = false := by decide
theorem hbc_6152_1 : hb 6152 1 = false := by decide
theorem hbc_6152_3 : hb 6152 3 = true := by decide
theorem hbc_6152_5 : hb 6152 5 = false := by decide
theorem hbc_6152_7 : hb 6152 7 = false := by decide
theorem hbc_6152_8 : hb 6152 8 = false := by decide
theorem hbc_6152_11 : hb 6152 11 = true := by decide
theorem hbc_6152_12 : hb 6152 12 = true := by decide
theorem hbc_6152_17 : hb 6152 17 = false := by decide
theorem hbc_2048_1 : hb 2048 1 = false := by decide
theorem hbc_2048_3 : hb 2048 3 = false := by decide
theorem hbc_2048_5 : hb 2048 5 = false := by decide
theorem hbc_2048_7 : hb 2048 7 = false := by decide
theorem hbc_2048_8 : hb 2048 8 = false := by decide
theorem hbc_2048_11 : hb 2048 11 = true := by decide
theorem hbc_2048_12 : hb 2048 12 = false := by decide
theorem hbc_2048_17 : hb 2048 17 = false := by decide
theorem hbc_0_1 : hb 0 1 = false := by decide
theorem hbc_0_3 : hb 0 3 = false := by decide
theorem hbc_0_5 : hb 0 5 = false := by decide
theorem hbc_0_7 : hb 0 7 = false := by decide
theorem hbc_0_8 : hb 0 8 = false := by decide
theorem hbc_0_11 : hb 0 11 = false := by decide
theorem hbc_0_12 : hb 0 12 = false := by decide
theorem hbc_0_17 : hb 0 17 = false := by decide
theorem hbc_1_1 : hb 1 1 = false := by decide
theorem hbc_1_3 : hb 1 3 = false := by decide
theorem hbc_1_5 : hb 1 5 = false := by decide
theorem hbc_1_7 : hb 1 7 = false := by decide
theorem hbc_1_8 : hb 1 8 = false := by decide
theorem hbc_1_11 : hb 1 11 = false := by decide
theorem hbc_1_12 : hb 1 12 = false := by decide
theorem hbc_1_17 : hb 1 17 = false := by decide
theorem and_p (p : Int) (hp : p = 0 ∨ p = 1 ∨ p = 3) : bits .and .i64 p 3 % 4294967296 * 2048 % 4294967296 = p * 2048 := by
  rcases hp with rfl | rfl | rfl <;> decide
theorem hb_p (p : Int) (hp : p = 0 ∨ p = 1 ∨ p = 3) : hb (p * 2048) 11 = (p == 1 || p == 3) ∧ hb (p * 2048) 12 = (p == 3) ∧ hb (p * 2048) 3 = false ∧ hb (p * 2048) 7 = false := by
  rcases hp with rfl | rfl | rfl <;> decide
theorem back_down (s : St) (c v : Int) (hr : Right s) (hd : sDown s c = true) :
    (sTake s c v).p = 1 ∧ (sBack (sTake s c v) false).p = s.p ∧ (sBack (sTake s c v) false).pc = s.pc ∧ bits .and .u32 (sBack (sTake s c v) false).x0 2 = bits .and .u32 s.x0 2 ∧ bits .and .u32 (sTake s c v).x0 2 = 0 := by
  have et : sTake s c v = takeDown s c v := by unfold sTake; rw [hd]; rfl
  have hp : s.p = 0 ∨ s.p = 1 := by
    unfold sDown at hd
    rw [Bool.and_eq_true, decide_eq_true_eq] at hd
    rcases hr with h | h | h
    · exact .inl h
    · exact .inr h
    · omega
  have a1 := and_pow (sBack (sTake s c v) false).x0 2 1 (by decide) (by decide)
  have a2 := and_pow s.x0 2 1 (by decide) (by decide)
  have a3 := and_pow (sTake s c v).x0 2 1 (by decide) (by decide)
  have hb1 : hb (sBack (sTake s c v) false).x0 1 = hb s.x0 1 := by
    rw [et]
    show hb (sUser (takeDown s c v).x0) 1 = _
    unfold sUser takeDown
    simp only [has2, has32, hb_andNot _ _ 1 (by decide), hb_andNot _ _ 5 (by decide), hb_or, hb_tSet _ _ _ 1 (by decide), hb_tSet _ _ _ 5 (by decide), hbc_2_1, hbc_2_3, hbc_2_5, hbc_2_7, hbc_2_8, hbc_2_11, hbc_2_12, hbc_2_17, hbc_8_1, hbc_8_3, hbc_8_5, hbc_8_7, hbc_8_8, hbc_8_11, hbc_8_12, hbc_8_17, hbc_32_1, hbc_32_3, hbc_32_5, hbc_32_7, hbc_32_8, hbc_32_11, hbc_32_12, hbc_32_17, hbc_128_1, hbc_128_3, hbc_128_5, hbc_128_7, hbc_128_8, hbc_128_11, hbc_128_12, hbc_128_17, hbc_256_1, hbc_256_3, hbc_256_5, hbc_256_7, hbc_256_8, hbc_256_11, hbc_256_12, hbc_256_17, hbc_131072_1, hbc_131072_3, hbc_131072_5, hbc_131072_7, hbc_131072_8, hbc_131072_11, hbc_131072_12, hbc_131072_17, hbc_6144_1, hbc_6144_3, hbc_6144_5, hbc_6144_7, hbc_6144_8, hbc_6144_11, hbc_6144_12, hbc_6144_17, hbc_6152_1, hbc_6152_3, hbc_6152_5, hbc_6152_7, hbc_6152_8, hbc_6152_11, hbc_6152_12, hbc_6152_17, hbc_2048_1, hbc_2048_3, hbc_2048_5, hbc_2048_7, hbc_2048_8, hbc_2048_11, hbc_2048_12, hbc_2048_17, hbc_0_1, hbc_0_3, hbc_0_5, hbc_0_7, hbc_0_8, hbc_0_11, hbc_0_12, hbc_0_17, hbc_1_1, hbc_1_3, hbc_1_5, hbc_1_7, hbc_1_8, hbc_1_11, hbc_1_12, hbc_1_17]
    rcases hp with h | h <;> rw [h] <;> cases hb s.x0 1 <;> simp
  have hb3 : hb (sTake s c v).x0 1 = false := by
    rw [et]
    unfold takeDown
    simp only [has2, hb_andNot _ _ 1 (by decide), hb_or, hb_tSet _ _ _ 1 (by decide), hbc_2_1, hbc_2_3, hbc_2_5, hbc_2_7, hbc_2_8, hbc_2_11, hbc_2_12, hbc_2_17, hbc_8_1, hbc_8_3, hbc_8_5, hbc_8_7, hbc_8_8, hbc_8_11, hbc_8_12, hbc_8_17, hbc_32_1, hbc_32_3, hbc_32_5, hbc_32_7, hbc_32_8, hbc_32_11, hbc_32_12, hbc_32_17, hbc_128_1, hbc_128_3, hbc_128_5, hbc_128_7, hbc_128_8, hbc_128_11, hbc_128_12, hbc_128_17, hbc_256_1, hbc_256_3, hbc_256_5, hbc_256_7, hbc_256_8, hbc_256_11, hbc_256_12, hbc_256_17, hbc_131072_1, hbc_131072_3, hbc_131072_5, hbc_131072_7, hbc_131072_8, hbc_131072_11, hbc_131072_12, hbc_131072_17, hbc_6144_1, hbc_6144_3, hbc_6144_5, hbc_6144_7, hbc_6144_8, hbc_6144_11, hbc_6144_12, hbc_6144_17, hbc_6152_1, hbc_6152_3, hbc_6152_5, hbc_6152_7, hbc_6152_8, hbc_6152_11, hbc_6152_12, hbc_6152_17, hbc_2048_1, hbc_2048_3, hbc_2048_5, hbc_2048_7, hbc_2048_8, hbc_2048_11, hbc_2048_12, hbc_2048_17, hbc_0_1, hbc_0_3, hbc_0_5, hbc_0_7, hbc_0_8, hbc_0_11, hbc_0_12, hbc_0_17, hbc_1_1, hbc_1_3, hbc_1_5, hbc_1_7, hbc_1_8, hbc_1_11, hbc_1_12, hbc_1_17]
    rcases hp with h | h <;> rw [h] <;> simp
  refine ⟨by rw [et]; rfl, ?_, by rw [et]; rfl, by rw [a1, a2, hb1], by rw [a3, hb3]; rfl⟩
  rw [et]
  show (if tHas (takeDown s c v).x0 256 then (1 : Int) else 0) = s.p
  unfold takeDown
  simp only [has256, hb_tSet _ _ _ 8 (by decide), hbc_2_1, hbc_2_3, hbc_2_5, hbc_2_7, hbc_2_8, hbc_2_11, hbc_2_12, hbc_2_17, hbc_8_1, hbc_8_3, hbc_8_5, hbc_8_7, hbc_8_8, hbc_8_11, hbc_8_12, hbc_8_17, hbc_32_1, hbc_32_3, hbc_32_5, hbc_32_7, hbc_32_8, hbc_32_11, hbc_32_12, hbc_32_17, hbc_128_1, hbc_128_3, hbc_128_5, hbc_128_7, hbc_128_8, hbc_128_11, hbc_128_12, hbc_128_17, hbc_256_1, hbc_256_3, hbc_256_5, hbc_256_7, hbc_256_8, hbc_256_11, hbc_256_12, hbc_256_17, hbc_131072_1, hbc_131072_3, hbc_131072_5, hbc_131072_7, hbc_131072_8, hbc_131072_11, hbc_131072_12, hbc_131072_17, hbc_6144_1, hbc_6144_3, hbc_6144_5, hbc_6144_7, hbc_6144_8, hbc_6144_11, hbc_6144_12, hbc_6144_17, hbc_6152_1, hbc_6152_3, hbc_6152_5, hbc_6152_7, hbc_6152_8, hbc_6152_11, hbc_6152_12, hbc_6152_17, hbc_2048_1, hbc_2048_3, hbc_2048_5, hbc_2048_7, hbc_2048_8, hbc_2048_11, hbc_2048_12, hbc_2048_17, hbc_0_1, hbc_0_3, hbc_0_5, hbc_0_7, hbc_0_8, hbc_0_11, hbc_0_12, hbc_0_17, hbc_1_1, hbc_1_3, hbc_1_5, hbc_1_7, hbc_1_8, hbc_1_11, hbc_1_12, hbc_1_17]
  rcases hp with h | h <;> rw [h] <;> simp
theorem back_up (s : St) (c v : Int) (hr : Right s) (hd : sDown s c = false) :
    (sTake s c v).p = 3 ∧ (sBack (sTake s c v) true).p = s.p ∧ (sBack (sTake s c v) true).pc = s.pc ∧ bits .and .u32 (sBack (sTake s c v) true).x0 8 = bits .and .u32 s.x0 8 ∧ bits .and .u32 (sTake s c v).x0 8 = 0 := by
  have et : sTake s c v = takeUp s c v := by unfold sTake; rw [hd]; rfl
  have a1 := and_pow (sBack (sTake s c v) true).x0 8 3 (by decide) (by decide)
  have a2 := and_pow s.x0 8 3 (by decide) (by decide)
  have a3 := and_pow (sTake s c v).x0 8 3 (by decide) (by decide)
  obtain ⟨p11, p12, p3, p7⟩ := hb_p s.p hr
  have x0 : (takeUp s c v).x0 = bits .or .u32 (bits .andNot .u32 (tSet s.x0 128 (tHas s.x0 8)) 6152) (s.p * 2048) := by
    unfold takeUp; simp only [and_p s.p hr]
  have hb3 : hb (sTake s c v).x0 3 = false := by
    rw [et, x0]
    simp only [has8, hb_andNot _ _ 3 (by decide), hb_or, hb_tSet _ _ _ 3 (by decide), p3, hbc_2_1, hbc_2_3, hbc_2_5, hbc_2_7, hbc_2_8, hbc_2_11, hbc_2_12, hbc_2_17, hbc_8_1, hbc_8_3, hbc_8_5, hbc_8_7, hbc_8_8, hbc_8_11, hbc_8_12, hbc_8_17, hbc_32_1, hbc_32_3, hbc_32_5, hbc_32_7, hbc_32_8, hbc_32_11, hbc_32_12, hbc_32_17, hbc_128_1, hbc_128_3, hbc_128_5, hbc_128_7, hbc_128_8, hbc_128_11, hbc_128_12, hbc_128_17, hbc_256_1, hbc_256_3, hbc_256_5, hbc_256_7, hbc_256_8, hbc_256_11, hbc_256_12, hbc_256_17, hbc_131072_1, hbc_131072_3, hbc_131072_5, hbc_131072_7, hbc_131072_8, hbc_131072_11, hbc_131072_12, hbc_131072_17, hbc_6144_1, hbc_6144_3, hbc_6144_5, hbc_6144_7, hbc_6144_8, hbc_6144_11, hbc_6144_12, hbc_6144_17, hbc_6152_1, hbc_6152_3, hbc_6152_5, hbc_6152_7, hbc_6152_8, hbc_6152_11, hbc_6152_12, hbc_6152_17, hbc_2048_1, hbc_2048_3, hbc_2048_5, hbc_2048_7, hbc_2048_8, hbc_2048_11, hbc_2048_12, hbc_2048_17, hbc_0_1, hbc_0_3, hbc_0_5, hbc_0_7, hbc_0_8, hbc_0_11, hbc_0_12, hbc_0_17, hbc_1_1, hbc_1_3, hbc_1_5, hbc_1_7, hbc_1_8, hbc_1_11, hbc_1_12, hbc_1_17]
    simp
  have hb7 : hb (takeUp s c v).x0 7 = hb s.x0 3 := by
    rw [x0]
    simp only [has8, hb_andNot _ _ 7 (by decide), hb_or, hb_tSet _ _ _ 7 (by decide), p7, hbc_2_1, hbc_2_3, hbc_2_5, hbc_2_7, hbc_2_8, hbc_2_11, hbc_2_12, hbc_2_17, hbc_8_1, hbc_8_3, hbc_8_5, hbc_8_7, hbc_8_8, hbc_8_11, hbc_8_12, hbc_8_17, hbc_32_1, hbc_32_3, hbc_32_5, hbc_32_7, hbc_32_8, hbc_32_11, hbc_32_12, hbc_32_17, hbc_128_1, hbc_128_3, hbc_128_5, hbc_128_7, hbc_128_8, hbc_128_11, hbc_128_12, hbc_128_17, hbc_256_1, hbc_256_3, hbc_256_5, hbc_256_7, hbc_256_8, hbc_256_11, hbc_256_12, hbc_256_17, hbc_131072_1, hbc_131072_3, hbc_131072_5, hbc_131072_7, hbc_131072_8, hbc_131072_11, hbc_131072_12, hbc_131072_17, hbc_6144_1, hbc_6144_3, hbc_6144_5, hbc_6144_7, hbc_6144_8, hbc_6144_11, hbc_6144_12, hbc_6144_17, hbc_6152_1, hbc_6152_3, hbc_6152_5, hbc_6152_7, hbc_6152_8, hbc_6152_11, hbc_6152_12, hbc_6152_17, hbc_2048_1, hbc_2048_3, hbc_2048_5, hbc_2048_7, hbc_2048_8, hbc_2048_11, hbc_2048_12, hbc_2048_17, hbc_0_1, hbc_0_3, hbc_0_5, hbc_0_7, hbc_0_8, hbc_0_11, hbc_0_12, hbc_0_17, hbc_1_1, hbc_1_3, hbc_1_5, hbc_1_7, hbc_1_8, hbc_1_11, hbc_1_12, hbc_1_17]
    cases hb s.x0 3 <;> simp
  have hb11 : hb (takeUp s c v).x0 11 = (s.p == 1 || s.p == 3) := by
    rw [x0]
    simp only [hb_andNot _ _ 11 (by decide), hb_or, p11, hbc_2_1, hbc_2_3, hbc_2_5, hbc_2_7, hbc_2_8, hbc_2_11, hbc_2_12, hbc_2_17, hbc_8_1, hbc_8_3, hbc_8_5, hbc_8_7, hbc_8_8, hbc_8_11, hbc_8_12, hbc_8_17, hbc_32_1, hbc_32_3, hbc_32_5, hbc_32_7, hbc_32_8, hbc_32_11, hbc_32_12, hbc_32_17, hbc_128_1, hbc_128_3, hbc_128_5, hbc_128_7, hbc_128_8, hbc_128_11, hbc_128_12, hbc_128_17, hbc_256_1, hbc_256_3, hbc_256_5, hbc_256_7, hbc_256_8, hbc_256_11, hbc_256_12, hbc_256_17, hbc_131072_1, hbc_131072_3, hbc_131072_5, hbc_131072_7, hbc_131072_8, hbc_131072_11, hbc_131072_12, hbc_131072_17, hbc_6144_1, hbc_6144_3, hbc_6144_5, hbc_6144_7, hbc_6144_8, hbc_6144_11, hbc_6144_12, hbc_6144_17, hbc_6152_1, hbc_6152_3, hbc_6152_5, hbc_6152_7, hbc_6152_8, hbc_6152_11, hbc_6152_12, hbc_6152_17, hbc_2048_1, hbc_2048_3, hbc_2048_5, hbc_2048_7, hbc_2048_8, hbc_2048_11, hbc_2048_12, hbc_2048_17, hbc_0_1, hbc_0_3, hbc_0_5, hbc_0_7, hbc_0_8, hbc_0_11, hbc_0_12, hbc_0_17, hbc_1_1, hbc_1_3, hbc_1_5, hbc_1_7, hbc_1_8, hbc_1_11, hbc_1_12, hbc_1_17]
    simp
  have hb12 : hb (takeUp s c v).x0 12 = (s.p == 3) := by
    rw [x0]
    simp only [hb_andNot _ _ 12 (by decide), hb_or, p12, hbc_2_1, hbc_2_3, hbc_2_5, hbc_2_7, hbc_2_8, hbc_2_11, hbc_2_12, hbc_2_17, hbc_8_1, hbc_8_3, hbc_8_5, hbc_8_7, hbc_8_8, hbc_8_11, hbc_8_12, hbc_8_17, hbc_32_1, hbc_32_3, hbc_32_5, hbc_32_7, hbc_32_8, hbc_32_11, hbc_32_12, hbc_32_17, hbc_128_1, hbc_128_3, hbc_128_5, hbc_128_7, hbc_128_8, hbc_128_11, hbc_128_12, hbc_128_17, hbc_256_1, hbc_256_3, hbc_256_5, hbc_256_7, hbc_256_8, hbc_256_11, hbc_256_12, hbc_256_17, hbc_131072_1, hbc_131072_3, hbc_131072_5, hbc_131072_7, hbc_131072_8, hbc_131072_11, hbc_131072_12, hbc_131072_17, hbc_6144_1, hbc_6144_3, hbc_6144_5, hbc_6144_7, hbc_6144_8, hbc_6144_11, hbc_6144_12, hbc_6144_17, hbc_6152_1, hbc_6152_3, hbc_6152_5, hbc_6152_7, hbc_6152_8, hbc_6152_11, hbc_6152_12, hbc_6152_17, hbc_2048_1, hbc_2048_3, hbc_2048_5, hbc_2048_7, hbc_2048_8, hbc_2048_11, hbc_2048_12, hbc_2048_17, hbc_0_1, hbc_0_3, hbc_0_5, hbc_0_7, hbc_0_8, hbc_0_11, hbc_0_12, hbc_0_17, hbc_1_1, hbc_1_3, hbc_1_5, hbc_1_7, hbc_1_8, hbc_1_11, hbc_1_12, hbc_1_17]
    simp
  have hpriv : sPriv (takeUp s c v).x0 = s.p := by
    unfold sPriv
    rw [priv_bits _ (by rw [x0]; exact bits_fits (.inr (.inl rfl)) _ _), hb11, hb12]
    rcases hr with h | h | h <;> rw [h] <;> decide
  have hm : hb (sMach (takeUp s c v).x0) 3 = hb s.x0 3 := by
    unfold sMach
    simp only [has128, hb_andNot _ _ 3 (by decide), hb_or, hb_tSet _ _ _ 3 (by decide), hb7, hbc_2_1, hbc_2_3, hbc_2_5, hbc_2_7, hbc_2_8, hbc_2_11, hbc_2_12, hbc_2_17, hbc_8_1, hbc_8_3, hbc_8_5, hbc_8_7, hbc_8_8, hbc_8_11, hbc_8_12, hbc_8_17, hbc_32_1, hbc_32_3, hbc_32_5, hbc_32_7, hbc_32_8, hbc_32_11, hbc_32_12, hbc_32_17, hbc_128_1, hbc_128_3, hbc_128_5, hbc_128_7, hbc_128_8, hbc_128_11, hbc_128_12, hbc_128_17, hbc_256_1, hbc_256_3, hbc_256_5, hbc_256_7, hbc_256_8, hbc_256_11, hbc_256_12, hbc_256_17, hbc_131072_1, hbc_131072_3, hbc_131072_5, hbc_131072_7, hbc_131072_8, hbc_131072_11, hbc_131072_12, hbc_131072_17, hbc_6144_1, hbc_6144_3, hbc_6144_5, hbc_6144_7, hbc_6144_8, hbc_6144_11, hbc_6144_12, hbc_6144_17, hbc_6152_1, hbc_6152_3, hbc_6152_5, hbc_6152_7, hbc_6152_8, hbc_6152_11, hbc_6152_12, hbc_6152_17, hbc_2048_1, hbc_2048_3, hbc_2048_5, hbc_2048_7, hbc_2048_8, hbc_2048_11, hbc_2048_12, hbc_2048_17, hbc_0_1, hbc_0_3, hbc_0_5, hbc_0_7, hbc_0_8, hbc_0_11, hbc_0_12, hbc_0_17, hbc_1_1, hbc_1_3, hbc_1_5, hbc_1_7, hbc_1_8, hbc_1_11, hbc_1_12, hbc_1_17]
    cases hb s.x0 3 <;> simp
  have hb1 : hb (sBack (sTake s c v) true).x0 3 = hb s.x0 3 := by
    rw [et]
    show hb (if sPriv (takeUp s c v).x0 = 3 then sMach (takeUp s c v).x0 else bits .andNot .u32 (sMach (takeUp s c v).x0) 131072) 3 = _
    split
    · exact hm
    · rw [hb_andNot _ _ 3 (by decide), hm]; simp [hbc_2_1, hbc_2_3, hbc_2_5, hbc_2_7, hbc_2_8, hbc_2_11, hbc_2_12, hbc_2_17, hbc_8_1, hbc_8_3, hbc_8_5, hbc_8_7, hbc_8_8, hbc_8_11, hbc_8_12, hbc_8_17, hbc_32_1, hbc_32_3, hbc_32_5, hbc_32_7, hbc_32_8, hbc_32_11, hbc_32_12, hbc_32_17, hbc_128_1, hbc_128_3, hbc_128_5, hbc_128_7, hbc_128_8, hbc_128_11, hbc_128_12, hbc_128_17, hbc_256_1, hbc_256_3, hbc_256_5, hbc_256_7, hbc_256_8, hbc_256_11, hbc_256_12, hbc_256_17, hbc_131072_1, hbc_131072_3, hbc_131072_5, hbc_131072_7, hbc_131072_8, hbc_131072_11, hbc_131072_12, hbc_131072_17, hbc_6144_1, hbc_6144_3, hbc_6144_5, hbc_6144_7, hbc_6144_8, hbc_6144_11, hbc_6144_12, hbc_6144_17, hbc_6152_1, hbc_6152_3, hbc_6152_5, hbc_6152_7, hbc_6152_8, hbc_6152_11, hbc_6152_12, hbc_6152_17, hbc_2048_1, hbc_2048_3, hbc_2048_5, hbc_2048_7, hbc_2048_8, hbc_2048_11, hbc_2048_12, hbc_2048_17, hbc_0_1, hbc_0_3, hbc_0_5, hbc_0_7, hbc_0_8, hbc_0_11, hbc_0_12, hbc_0_17, hbc_1_1, hbc_1_3, hbc_1_5, hbc_1_7, hbc_1_8, hbc_1_11, hbc_1_12, hbc_1_17]
  refine ⟨by rw [et]; rfl, ?_, by rw [et]; rfl, by rw [a1, a2, hb1], by rw [a3, hb3]; rfl⟩
  rw [et]
  show (if sPriv (takeUp s c v).x0 = 2 then (0 : Int) else sPriv (takeUp s c v).x0) = s.p
  rw [hpriv]
  rcases hr with h | h | h <;> rw [h] <;> rfl
end Go.Proofs.YtkebphpfedgokaaDoor
