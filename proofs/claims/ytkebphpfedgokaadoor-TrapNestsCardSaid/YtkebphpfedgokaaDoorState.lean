/-
  A state of trap as a Lean structure; down.
-/
import Derived.Test.YtkebphpfedgokaaDoorTarget
set_option linter.unusedVariables false
set_option linter.unusedSimpArgs false
namespace Go.Proofs.YtkebphpfedgokaaDoor
open Go.RowKit Go.Lib

structure St where
  x0 : Int
  x1 : Int
  x2 : Int
  x3 : Int
  x4 : Int
  x5 : Int
  x6 : Int
  x7 : Int
  x8 : Int
  x9 : Int
  x10 : Int
  x11 : Int
  x12 : Int
  x13 : Int
  x14 : Int
  x15 : Int
  x16 : Int
  p : Int
  pc : Int
abbrev St.r (s : St) : Array Value := #[.int .u32 s.x0, .int .u32 s.x1, .int .u32 s.x2, .int .u32 s.x3, .int .u32 s.x4, .int .u32 s.x5, .int .u32 s.x6, .int .u32 s.x7, .int .u32 s.x8, .int .u32 s.x9, .int .u32 s.x10, .int .u32 s.x11, .int .u32 s.x12, .int .u32 s.x13, .int .u32 s.x14, .int .u32 s.x15, .int .u64 s.x16, .int .i64 s.p, .int .u32 s.pc]
abbrev St.o (s : St) : Obj := .cells s.r 32
theorem size32 : (Tryd.prog.info? 32).map (·.size) = some 19 := by kernel_rfl
def tBit (c : Int) : Int := 2 ^ (bits .and .u32 c 31).toNat % 4294967296
def sDown (s : St) (c : Int) : Bool := decide (s.p ≤ 1) && tHas (if tInt c then s.x2 else s.x1) (tBit c)
theorem and31 (c : Int) : ∃ k : Nat, k < 32 ∧ bits .and .u32 c 31 = (k : Int) := by
  refine ⟨(BitVec.ofInt 32 c &&& BitVec.ofInt 32 31).toNat, ?_, ?_⟩
  · rw [BitVec.toNat_and]; exact Nat.lt_of_le_of_lt Nat.and_le_right (by decide)
  · show IntKind.u32.wrap (((BitVec.ofInt 32 c &&& BitVec.ofInt 32 31).toNat : Nat) : Int) = _
    have := (BitVec.ofInt 32 c &&& BitVec.ofInt 32 31).isLt
    rw [IntKind.wrap_u32']; omega
theorem down_calls (s : St) (c : Int) (w : World) : Calls Tryd.prog 22 #[.agg s.r, .int .u32 c] w fun e w' => e = .returned (.bool (sDown s c)) ∧ Below w.heap.size w w' := by
  obtain ⟨x0, x1, x2, x3, x4, x5, x6, x7, x8, x9, x10, x11, x12, x13, x14, x15, x16, p, pc⟩ := s
  rcases hi : tInt c with _ | _
  · by_cases hp : p ≤ 1
    · have e : sDown ⟨x0, x1, x2, x3, x4, x5, x6, x7, x8, x9, x10, x11, x12, x13, x14, x15, x16, p, pc⟩ c = tHas x1 (tBit c) := by unfold sDown; simp only [hi]; simp [hp]
      have hpp : (p ≤ 1) = True := eq_true (by omega)
      rw [e]
      have HI := _root_.Go.Lib.hid hi
      obtain ⟨k, hk32, hk⟩ := and31 c
      have hmin : min k 32 = k := by omega
      have hk2 : tBit c = 2 ^ k % 4294967296 := by unfold tBit; rw [hk]; rfl
      try rw [hk2]
      clear hi e hp hk2
      go_enter Tryd.func22, Tryd.ntmps22
      go_wp2_with (first | (go_at_call 29; refine (interrupt_calls c _).mono ?_; rw [HI.out]; rintro e w' ⟨rfl, rfl⟩) | (go_at_call 19; refine (has_calls x1 _ _).mono ?_; rintro e w' ⟨rfl, rfl⟩))
      go_ret
      exact ⟨by first | rfl | go_num | skip, (Below.refl _ _).alloc (Nat.le_refl _) _⟩
    · have e : sDown ⟨x0, x1, x2, x3, x4, x5, x6, x7, x8, x9, x10, x11, x12, x13, x14, x15, x16, p, pc⟩ c = false := by unfold sDown; simp only [hi]; simp [hp]
      have hpp : (p ≤ 1) = False := eq_false (by omega)
      rw [e]
      have HI := _root_.Go.Lib.hid hi
      obtain ⟨k, hk32, hk⟩ := and31 c
      have hmin : min k 32 = k := by omega
      have hk2 : tBit c = 2 ^ k % 4294967296 := by unfold tBit; rw [hk]; rfl
      try rw [hk2]
      clear hi e hp hk2
      go_enter Tryd.func22, Tryd.ntmps22
      go_wp2_with (first | (go_at_call 29; refine (interrupt_calls c _).mono ?_; rw [HI.out]; rintro e w' ⟨rfl, rfl⟩) | (go_at_call 19; refine (has_calls x1 _ _).mono ?_; rintro e w' ⟨rfl, rfl⟩))
      go_ret
      exact ⟨by first | rfl | go_num | skip, (Below.refl _ _).alloc (Nat.le_refl _) _⟩
  · by_cases hp : p ≤ 1
    · have e : sDown ⟨x0, x1, x2, x3, x4, x5, x6, x7, x8, x9, x10, x11, x12, x13, x14, x15, x16, p, pc⟩ c = tHas x2 (tBit c) := by unfold sDown; simp only [hi]; simp [hp]
      have hpp : (p ≤ 1) = True := eq_true (by omega)
      rw [e]
      have HI := _root_.Go.Lib.hid hi
      obtain ⟨k, hk32, hk⟩ := and31 c
      have hmin : min k 32 = k := by omega
      have hk2 : tBit c = 2 ^ k % 4294967296 := by unfold tBit; rw [hk]; rfl
      try rw [hk2]
      clear hi e hp hk2
      go_enter Tryd.func22, Tryd.ntmps22
      go_wp2_with (first | (go_at_call 29; refine (interrupt_calls c _).mono ?_; rw [HI.out]; rintro e w' ⟨rfl, rfl⟩) | (go_at_call 19; refine (has_calls x2 _ _).mono ?_; rintro e w' ⟨rfl, rfl⟩))
      go_ret
      exact ⟨by first | rfl | go_num | skip, (Below.refl _ _).alloc (Nat.le_refl _) _⟩
    · have e : sDown ⟨x0, x1, x2, x3, x4, x5, x6, x7, x8, x9, x10, x11, x12, x13, x14, x15, x16, p, pc⟩ c = false := by unfold sDown; simp only [hi]; simp [hp]
      have hpp : (p ≤ 1) = False := eq_false (by omega)
      rw [e]
      have HI := _root_.Go.Lib.hid hi
      obtain ⟨k, hk32, hk⟩ := and31 c
      have hmin : min k 32 = k := by omega
      have hk2 : tBit c = 2 ^ k % 4294967296 := by unfold tBit; rw [hk]; rfl
      try rw [hk2]
      clear hi e hp hk2
      go_enter Tryd.func22, Tryd.ntmps22
      go_wp2_with (first | (go_at_call 29; refine (interrupt_calls c _).mono ?_; rw [HI.out]; rintro e w' ⟨rfl, rfl⟩) | (go_at_call 19; refine (has_calls x2 _ _).mono ?_; rintro e w' ⟨rfl, rfl⟩))
      go_ret
      exact ⟨by first | rfl | go_num | skip, (Below.refl _ _).alloc (Nat.le_refl _) _⟩
end Go.Proofs.YtkebphpfedgokaaDoor
