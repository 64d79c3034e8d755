/-
  The contracts of Back and Pending, of right, Theirs, Ours, and of alive.
-/
import Derived.Test.YtkebphpfedgokaaDoorBacka
import Derived.Test.YtkebphpfedgokaaDoorBackb
import Derived.Test.YtkebphpfedgokaaDoorBackc
import Derived.Test.YtkebphpfedgokaaDoorBackd
import Derived.Test.YtkebphpfedgokaaDoorBacke
import Derived.Test.YtkebphpfedgokaaDoorBackf
import Derived.Test.YtkebphpfedgokaaDoorPenda
import Derived.Test.YtkebphpfedgokaaDoorPendb
import Derived.Test.YtkebphpfedgokaaDoorPendc
import Derived.Test.YtkebphpfedgokaaDoorPendd
import Derived.Test.YtkebphpfedgokaaDoorPende
import Derived.Test.YtkebphpfedgokaaDoorTakeu
set_option linter.unusedVariables false
set_option linter.unusedSimpArgs false
namespace Go.Proofs.YtkebphpfedgokaaDoor
open Go.RowKit Go.Lib

def Right (s : St) : Prop := s.p = 0 ∨ s.p = 1 ∨ s.p = 3
theorem pending_calls (s : St) (hp : Right s) (w : World) (hT : Tab w) : Calls Tryd.prog 12 #[.agg s.r] w fun e w' => e = .returned (.tuple #[.int .u32 (sPend s).1, .bool (sPend s).2]) ∧ Below w.heap.size w w' := by
  rcases hp with h | h | h
  · exact pend_0 s h w hT
  · rcases hc : tHas s.x0 2 with _ | _
    · exact pend_1f s h hc w hT
    · exact pend_1t s h hc w hT
  · rcases hc : tHas s.x0 8 with _ | _
    · exact pend_3f s h hc w hT
    · exact pend_3t s h hc w hT
theorem sPriv_cases (x : Int) : sPriv x = 0 ∨ sPriv x = 1 ∨ sPriv x = 2 ∨ sPriv x = 3 := by
  have h : ∃ k : Nat, k < 4 ∧ bits .and .u32 (x / 2048) 3 = (k : Int) := by
    refine ⟨(BitVec.ofInt 32 (x / 2048) &&& BitVec.ofInt 32 3).toNat, ?_, ?_⟩
    · rw [BitVec.toNat_and]; exact Nat.lt_of_le_of_lt Nat.and_le_right (by decide)
    · show IntKind.u32.wrap (((BitVec.ofInt 32 (x / 2048) &&& BitVec.ofInt 32 3).toNat : Nat) : Int) = _
      have := (BitVec.ofInt 32 (x / 2048) &&& BitVec.ofInt 32 3).isLt
      rw [IntKind.wrap_u32']; omega
  obtain ⟨k, hk, e⟩ := h
  unfold sPriv
  rw [e]
  rcases (show k = 0 ∨ k = 1 ∨ k = 2 ∨ k = 3 by omega) with rfl | rfl | rfl | rfl
  · exact .inl (by decide)
  · exact .inr (.inl (by decide))
  · exact .inr (.inr (.inl (by decide)))
  · exact .inr (.inr (.inr (by decide)))
def sBack (s : St) (m : Bool) : St := if m then backM s else backU s
theorem back_calls (s : St) (m : Bool) (w : World) : Calls Tryd.prog 17 #[.agg s.r, .bool m] w fun e w' => e = .returned (.agg (sBack s m).r) ∧ Below w.heap.size w w' := by
  cases m
  · show Calls _ _ _ _ fun e w' => e = .returned (.agg (backU s).r) ∧ _
    rcases hc : tHas s.x0 256 with _ | _
    · rw [show backU s = { s with x0 := sUser s.x0, p := 0, pc := s.x12 } by unfold backU; rw [hc]; rfl]
      exact back_u0 s hc w
    · rw [show backU s = { s with x0 := sUser s.x0, p := 1, pc := s.x12 } by unfold backU; rw [hc]; rfl]
      exact back_u1 s hc w
  · show Calls _ _ _ _ fun e w' => e = .returned (.agg (backM s).r) ∧ _
    rcases sPriv_cases s.x0 with h | h | h | h
    · rw [show backM s = { s with x0 := bits .andNot .u32 (sMach s.x0) 131072, p := 0, pc := s.x7 } by unfold backM; rw [h]; rfl]
      exact back_m0 s h w
    · rw [show backM s = { s with x0 := bits .andNot .u32 (sMach s.x0) 131072, p := 1, pc := s.x7 } by unfold backM; rw [h]; rfl]
      exact back_m1 s h w
    · rw [show backM s = { s with x0 := bits .andNot .u32 (sMach s.x0) 131072, p := 0, pc := s.x7 } by unfold backM; rw [h]; rfl]
      exact back_m2 s h w
    · rw [show backM s = { s with x0 := sMach s.x0, p := 3, pc := s.x7 } by unfold backM; rw [h]; rfl]
      exact back_m3 s h w
theorem size27 : (Tryd.prog.info? 27).map (·.size) = some 19 := by kernel_rfl
theorem size25 : (Tryd.prog.info? 25).map (·.size) = some 17 := by kernel_rfl
abbrev St.q (s : St) : Obj := .cells s.r 27
abbrev resR : Obj := .cells #[.int .u32 0, .int .u32 0, .int .u32 0, .int .u32 0, .int .u32 0, .int .u32 0, .int .u32 0, .int .u32 0, .int .u32 0, .int .u32 0, .int .u32 0, .int .u32 0, .int .u32 0, .int .u32 0, .int .u32 0, .int .u32 0, .int .u64 0, .int .i64 0, .int .u32 0] 27

theorem right_0 (s : St) (hp : s.p = 0) (w : World) : Calls Tryd.prog 10 #[.agg s.r] w fun e w' => e = .returned (.bool true) ∧ Below w.heap.size w w' := by
  obtain ⟨x0, x1, x2, x3, x4, x5, x6, x7, x8, x9, x10, x11, x12, x13, x14, x15, x16, p, pc⟩ := s
  obtain rfl : p = 0 := hp
  go_enter Tryd.func10, Tryd.ntmps10
  have m17 : (w.alloc (St.q ⟨x0, x1, x2, x3, x4, x5, x6, x7, x8, x9, x10, x11, x12, x13, x14, x15, x16, 0, pc⟩)).cell? ⟨w.heap.size, 17, none⟩ = some (.int .i64 0) := cell_at (heap_alloc_new w _) 17
  go_wp2
  go_ret
  exact ⟨rfl, (Below.refl _ _).alloc (Nat.le_refl _) _⟩

theorem right_1 (s : St) (hp : s.p = 1) (w : World) : Calls Tryd.prog 10 #[.agg s.r] w fun e w' => e = .returned (.bool true) ∧ Below w.heap.size w w' := by
  obtain ⟨x0, x1, x2, x3, x4, x5, x6, x7, x8, x9, x10, x11, x12, x13, x14, x15, x16, p, pc⟩ := s
  obtain rfl : p = 1 := hp
  go_enter Tryd.func10, Tryd.ntmps10
  have m17 : (w.alloc (St.q ⟨x0, x1, x2, x3, x4, x5, x6, x7, x8, x9, x10, x11, x12, x13, x14, x15, x16, 1, pc⟩)).cell? ⟨w.heap.size, 17, none⟩ = some (.int .i64 1) := cell_at (heap_alloc_new w _) 17
  go_wp2
  go_ret
  exact ⟨rfl, (Below.refl _ _).alloc (Nat.le_refl _) _⟩

theorem right_3 (s : St) (hp : s.p = 3) (w : World) : Calls Tryd.prog 10 #[.agg s.r] w fun e w' => e = .returned (.bool true) ∧ Below w.heap.size w w' := by
  obtain ⟨x0, x1, x2, x3, x4, x5, x6, x7, x8, x9, x10, x11, x12, x13, x14, x15, x16, p, pc⟩ := s
  obtain rfl : p = 3 := hp
  go_enter Tryd.func10, Tryd.ntmps10
  have m17 : (w.alloc (St.q ⟨x0, x1, x2, x3, x4, x5, x6, x7, x8, x9, x10, x11, x12, x13, x14, x15, x16, 3, pc⟩)).cell? ⟨w.heap.size, 17, none⟩ = some (.int .i64 3) := cell_at (heap_alloc_new w _) 17
  go_wp2
  go_ret
  exact ⟨rfl, (Below.refl _ _).alloc (Nat.le_refl _) _⟩

theorem right_no (s : St) (h0 : s.p ≠ 0) (h1 : s.p ≠ 1) (h3 : s.p ≠ 3) (w : World) : Calls Tryd.prog 10 #[.agg s.r] w fun e w' => e = .returned (.bool false) ∧ Below w.heap.size w w' := by
  obtain ⟨x0, x1, x2, x3, x4, x5, x6, x7, x8, x9, x10, x11, x12, x13, x14, x15, x16, p, pc⟩ := s
  have e0 : (p == 0) = false := by simpa using h0
  have e1 : (p == 1) = false := by simpa using h1
  have e3 : (p == 3) = false := by simpa using h3
  clear h0 h1 h3
  go_enter Tryd.func10, Tryd.ntmps10
  have m17 : (w.alloc (St.q ⟨x0, x1, x2, x3, x4, x5, x6, x7, x8, x9, x10, x11, x12, x13, x14, x15, x16, p, pc⟩)).cell? ⟨w.heap.size, 17, none⟩ = some (.int .i64 p) := cell_at (heap_alloc_new w _) 17
  go_wp2
  go_ret
  exact ⟨rfl, (Below.refl _ _).alloc (Nat.le_refl _) _⟩

theorem right_calls (s : St) (hp : Right s) (w : World) : Calls Tryd.prog 10 #[.agg s.r] w fun e w' => e = .returned (.bool true) ∧ Below w.heap.size w w' := by
  rcases hp with h | h | h
  · exact right_0 s h w
  · exact right_1 s h w
  · exact right_3 s h w
theorem wrong_calls (s : St) (hp : ¬ Right s) (w : World) : Calls Tryd.prog 10 #[.agg s.r] w fun e w' => e = .returned (.bool false) ∧ Below w.heap.size w w' :=
  right_no s (fun h => hp (.inl h)) (fun h => hp (.inr (.inl h))) (fun h => hp (.inr (.inr h))) w

theorem theirs_calls (s : St) (w : World) : Calls Tryd.prog 11 #[.agg s.r] w fun e w' => e = .returned (.agg s.r) ∧ Below w.heap.size w w' := by
  obtain ⟨x0, x1, x2, x3, x4, x5, x6, x7, x8, x9, x10, x11, x12, x13, x14, x15, x16, p, pc⟩ := s
  have hp1 := ((KW.start (Below.refl w.heap.size w) (Nat.le_refl _)).push (St.q ⟨x0, x1, x2, x3, x4, x5, x6, x7, x8, x9, x10, x11, x12, x13, x14, x15, x16, p, pc⟩))
  have e6 : (w.alloc (St.q ⟨x0, x1, x2, x3, x4, x5, x6, x7, x8, x9, x10, x11, x12, x13, x14, x15, x16, p, pc⟩)).heap.size = w.heap.size + 1 := by rw [World.size_alloc]
  have hp2 := hp1.push resO
  rw [e6] at hp2
  have m17 : ((w.alloc (St.q ⟨x0, x1, x2, x3, x4, x5, x6, x7, x8, x9, x10, x11, x12, x13, x14, x15, x16, p, pc⟩)).alloc resO).cell? ⟨w.heap.size, 17, none⟩ = some (.int .i64 p) := cell_at (hp2.get (g := w.heap.size) (o := St.q ⟨x0, x1, x2, x3, x4, x5, x6, x7, x8, x9, x10, x11, x12, x13, x14, x15, x16, p, pc⟩) (by simp)) 17
  have m18 : ((w.alloc (St.q ⟨x0, x1, x2, x3, x4, x5, x6, x7, x8, x9, x10, x11, x12, x13, x14, x15, x16, p, pc⟩)).alloc resO).cell? ⟨w.heap.size, 18, none⟩ = some (.int .u32 pc) := cell_at (hp2.get (g := w.heap.size) (o := St.q ⟨x0, x1, x2, x3, x4, x5, x6, x7, x8, x9, x10, x11, x12, x13, x14, x15, x16, p, pc⟩) (by simp)) 18
  have HQ := _root_.Go.Lib.hid hp2
  clear hp1 hp2 e6
  go_enter Tryd.func11, Tryd.ntmps11
  go_wp2_with (first | ((with_reducible apply Go.Mem.wpList_load_part 25 (vs := #[.int .u32 x0, .int .u32 x1, .int .u32 x2, .int .u32 x3, .int .u32 x4, .int .u32 x5, .int .u32 x6, .int .u32 x7, .int .u32 x8, .int .u32 x9, .int .u32 x10, .int .u32 x11, .int .u32 x12, .int .u32 x13, .int .u32 x14, .int .u32 x15, .int .u64 x16]) Tryd.underlying25); rfl; rfl; (exact HQ.out.get (g := w.heap.size) (o := St.q ⟨x0, x1, x2, x3, x4, x5, x6, x7, x8, x9, x10, x11, x12, x13, x14, x15, x16, p, pc⟩) (by simp)); exact size25; rfl) | ((with_reducible apply wpList_store_at 32); rfl; rfl; (exact HQ.out.get (g := w.heap.size + 1) (o := resO) (by simp)); exact size32; rfl; rfl; rfl; (have h2 := KW.row (vs := St.r ⟨x0, x1, x2, x3, x4, x5, x6, x7, x8, x9, x10, x11, x12, x13, x14, x15, x16, p, pc⟩) HQ.out); (generalize World.setRow _ (w.heap.size + 1) _ = wc at h2 ⊢)))
  refine bodyPost_ret (v := .agg (St.r ⟨x0, x1, x2, x3, x4, x5, x6, x7, x8, x9, x10, x11, x12, x13, x14, x15, x16, p, pc⟩)) (results_cell_row (ty := 32) Tryd.results11 _ _ _ _ _ _ _ rfl (h2.get (g := w.heap.size + 1) (o := .cells (St.r ⟨x0, x1, x2, x3, x4, x5, x6, x7, x8, x9, x10, x11, x12, x13, x14, x15, x16, p, pc⟩) 32) (by simp)) Tryd.underlying32 rfl size32) rfl ⟨rfl, h2.bel⟩

theorem ours_calls (s : St) (w : World) : Calls Tryd.prog 14 #[.agg s.r] w fun e w' => e = .returned (.agg s.r) ∧ Below w.heap.size w w' := by
  obtain ⟨x0, x1, x2, x3, x4, x5, x6, x7, x8, x9, x10, x11, x12, x13, x14, x15, x16, p, pc⟩ := s
  have hp1 := ((KW.start (Below.refl w.heap.size w) (Nat.le_refl _)).push (St.o ⟨x0, x1, x2, x3, x4, x5, x6, x7, x8, x9, x10, x11, x12, x13, x14, x15, x16, p, pc⟩))
  have e6 : (w.alloc (St.o ⟨x0, x1, x2, x3, x4, x5, x6, x7, x8, x9, x10, x11, x12, x13, x14, x15, x16, p, pc⟩)).heap.size = w.heap.size + 1 := by rw [World.size_alloc]
  have hp2 := hp1.push resR
  rw [e6] at hp2
  have m17 : ((w.alloc (St.o ⟨x0, x1, x2, x3, x4, x5, x6, x7, x8, x9, x10, x11, x12, x13, x14, x15, x16, p, pc⟩)).alloc resR).cell? ⟨w.heap.size, 17, none⟩ = some (.int .i64 p) := cell_at (hp2.get (g := w.heap.size) (o := St.o ⟨x0, x1, x2, x3, x4, x5, x6, x7, x8, x9, x10, x11, x12, x13, x14, x15, x16, p, pc⟩) (by simp)) 17
  have m18 : ((w.alloc (St.o ⟨x0, x1, x2, x3, x4, x5, x6, x7, x8, x9, x10, x11, x12, x13, x14, x15, x16, p, pc⟩)).alloc resR).cell? ⟨w.heap.size, 18, none⟩ = some (.int .u32 pc) := cell_at (hp2.get (g := w.heap.size) (o := St.o ⟨x0, x1, x2, x3, x4, x5, x6, x7, x8, x9, x10, x11, x12, x13, x14, x15, x16, p, pc⟩) (by simp)) 18
  have HQ := _root_.Go.Lib.hid hp2
  clear hp1 hp2 e6
  go_enter Tryd.func14, Tryd.ntmps14
  go_wp2_with (first | ((with_reducible apply Go.Mem.wpList_load_part 30 (vs := #[.int .u32 x0, .int .u32 x1, .int .u32 x2, .int .u32 x3, .int .u32 x4, .int .u32 x5, .int .u32 x6, .int .u32 x7, .int .u32 x8, .int .u32 x9, .int .u32 x10, .int .u32 x11, .int .u32 x12, .int .u32 x13, .int .u32 x14, .int .u32 x15, .int .u64 x16]) Tryd.underlying30); rfl; rfl; (exact HQ.out.get (g := w.heap.size) (o := St.o ⟨x0, x1, x2, x3, x4, x5, x6, x7, x8, x9, x10, x11, x12, x13, x14, x15, x16, p, pc⟩) (by simp)); exact size30; rfl) | ((with_reducible apply wpList_store_at 27); rfl; rfl; (exact HQ.out.get (g := w.heap.size + 1) (o := resR) (by simp)); exact size27; rfl; rfl; rfl; (have h2 := KW.row (vs := St.r ⟨x0, x1, x2, x3, x4, x5, x6, x7, x8, x9, x10, x11, x12, x13, x14, x15, x16, p, pc⟩) HQ.out); (generalize World.setRow _ (w.heap.size + 1) _ = wc at h2 ⊢)))
  refine bodyPost_ret (v := .agg (St.r ⟨x0, x1, x2, x3, x4, x5, x6, x7, x8, x9, x10, x11, x12, x13, x14, x15, x16, p, pc⟩)) (results_cell_row (ty := 27) Tryd.results14 _ _ _ _ _ _ _ rfl (h2.get (g := w.heap.size + 1) (o := .cells (St.r ⟨x0, x1, x2, x3, x4, x5, x6, x7, x8, x9, x10, x11, x12, x13, x14, x15, x16, p, pc⟩) 27) (by simp)) Tryd.underlying27 rfl size27) rfl ⟨rfl, h2.bel⟩

end Go.Proofs.YtkebphpfedgokaaDoor
