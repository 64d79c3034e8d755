/-
  The reference's Pending.
-/
import Derived.Test.YtkebphpfedgokaaDoorReft
set_option linter.unusedVariables false
set_option linter.unusedSimpArgs false
namespace Go.Proofs.YtkebphpfedgokaaDoor
open Go.RowKit Go.Lib
abbrev fileY : Obj := .cells zeros17 25
theorem compl_and (a x : Int) (hx : W32 x) : bits .and .u32 a ((4294967295 - x) % 4294967296) = bits .andNot .u32 a x := by
  obtain ⟨X, rfl⟩ : ∃ n : Nat, x = n := ⟨x.toNat, by have := hx.1; omega⟩
  have hX : X < 4294967296 := by have := hx.2; omega
  rw [and_bv, andNot_bv]
  congr 3
  apply BitVec.eq_of_toNat_eq
  rw [BitVec.toNat_not, BitVec.toNat_ofInt, BitVec.toNat_ofInt]
  omega
/-- What is told of a first one. -/
theorem or_top (b : Int) (n : Nat) (h : pFirst b = some n) : bits .or .u32 2147483648 (n : Int) = 2147483648 + (n : Int) ∧ n < 32 := by
  rcases (first_in _ _ h).1 with rfl | rfl | rfl | rfl | rfl | rfl <;> exact ⟨by kernel_rfl, by decide⟩
theorem tell_hi (h l : Int) (n : Nat) (e : pFirst h = some n) : pTell h l = (2147483648 + (n : Int), true) ∧ n < 32 ∧ fInt h = (n : Int) := by
  obtain ⟨h1, h2⟩ := or_top h n e
  refine ⟨?_, h2, ?_⟩
  · unfold pTell; rw [e]; simp only [h1]
  · unfold fInt; rw [e]
theorem tell_lo (h l : Int) (n : Nat) (e0 : pFirst h = none) (e : pFirst l = some n) : pTell h l = (2147483648 + (n : Int), true) ∧ n < 32 ∧ fInt l = (n : Int) := by
  obtain ⟨h1, h2⟩ := or_top l n e
  refine ⟨?_, h2, ?_⟩
  · unfold pTell; rw [e0, e]; simp only [h1]
  · unfold fInt; rw [e]
theorem tell_no (h l : Int) (e0 : pFirst h = none) (e : pFirst l = none) : pTell h l = (0, false) := by
  unfold pTell; rw [e0, e]
theorem fInt_none (h : Int) (e : pFirst h = none) : fInt h = -1 := by unfold fInt; rw [e]

set_option maxRecDepth 100000 in
set_option maxHeartbeats 1600000 in
theorem rpend_0h (s : St) (n : Nat) (hp : s.p = 0) (hF : Wf s) (hh : fInt (bits .andNot .u32 (sAsks s) s.x2) = (n : Int)) (hn : n < 32) (hs : sPend s = (2147483648 + (n : Int), true)) (w : World) : Calls Tryd.prog 13 #[.agg s.r] w fun e w' => e = .returned (.tuple #[.int .u32 (sPend s).1, .bool (sPend s).2]) ∧ Below w.heap.size w w' := by
  obtain ⟨x0, x1, x2, x3, x4, x5, x6, x7, x8, x9, x10, x11, x12, x13, x14, x15, x16, p, pc⟩ := s
  obtain rfl : p = 0 := hp
  have hcm := compl_and (bits .and .u32 x4 x3) x2 hF.h2
  have hx0 : W32 x0 := hF.h0
  clear hF
  have HC := _root_.Go.Lib.hid (And.intro hcm hx0)
  clear hcm hx0
  have hh2 : fInt (bits .andNot .u32 (bits .and .u32 x4 x3) x2) = (n : Int) := hh
  have HH := _root_.Go.Lib.hid hh2
  clear hh hh2
  have HS := _root_.Go.Lib.hid (And.intro hs hn)
  clear hs hn
  have hp1 := (KW.start (Below.refl w.heap.size w) (Nat.le_refl _)).push (St.q ⟨x0, x1, x2, x3, x4, x5, x6, x7, x8, x9, x10, x11, x12, x13, x14, x15, x16, 0, pc⟩)
  have e6 : (w.alloc (St.q ⟨x0, x1, x2, x3, x4, x5, x6, x7, x8, x9, x10, x11, x12, x13, x14, x15, x16, 0, pc⟩)).heap.size = w.heap.size + 1 := by rw [World.size_alloc]
  have hp2 := hp1.push fileY
  rw [e6] at hp2
  clear e6
  have HP := _root_.Go.Lib.hid hp1
  have HQ := _root_.Go.Lib.hid hp2
  clear hp1 hp2
  go_enter Tryd.func13, Tryd.ntmps13
  go_upto_region 2 with (first | ((with_reducible apply Go.Mem.wpList_load_part 25 (vs := #[.int .u32 x0, .int .u32 x1, .int .u32 x2, .int .u32 x3, .int .u32 x4, .int .u32 x5, .int .u32 x6, .int .u32 x7, .int .u32 x8, .int .u32 x9, .int .u32 x10, .int .u32 x11, .int .u32 x12, .int .u32 x13, .int .u32 x14, .int .u32 x15, .int .u64 x16]) Tryd.underlying25); rfl; rfl; (exact HP.out.get (g := w.heap.size) (o := St.q ⟨x0, x1, x2, x3, x4, x5, x6, x7, x8, x9, x10, x11, x12, x13, x14, x15, x16, 0, pc⟩) (by simp)); exact size25; rfl) | ((with_reducible apply wpList_store_at 25); rfl; rfl; (exact HQ.out.get (g := w.heap.size + 1) (o := fileY) (by simp)); exact size25; rfl; rfl; rfl; (have h2 := KW.row (vs := #[.int .u32 x0, .int .u32 x1, .int .u32 x2, .int .u32 x3, .int .u32 x4, .int .u32 x5, .int .u32 x6, .int .u32 x7, .int .u32 x8, .int .u32 x9, .int .u32 x10, .int .u32 x11, .int .u32 x12, .int .u32 x13, .int .u32 x14, .int .u32 x15, .int .u64 x16]) HQ.out); (generalize World.setRow _ (w.heap.size + 1) _ = w0 at h2 ⊢)))
  clear HP HQ
  generalize hbb : w.heap.size = b at h2 ⊢
  generalize hbb2 : b + 1 = fb at h2 ⊢
  have H0 := _root_.Go.Lib.hid h2
  clear h2
  have n0_0 : w0.cell? ⟨fb, 0, none⟩ = some (.int .u32 x0) := cell_at (H0.out.get (g := fb) (o := .cells #[.int .u32 x0, .int .u32 x1, .int .u32 x2, .int .u32 x3, .int .u32 x4, .int .u32 x5, .int .u32 x6, .int .u32 x7, .int .u32 x8, .int .u32 x9, .int .u32 x10, .int .u32 x11, .int .u32 x12, .int .u32 x13, .int .u32 x14, .int .u32 x15, .int .u64 x16] 25) (by simp)) 0
  have n2_0 : w0.cell? ⟨fb, 2, none⟩ = some (.int .u32 x2) := cell_at (H0.out.get (g := fb) (o := .cells #[.int .u32 x0, .int .u32 x1, .int .u32 x2, .int .u32 x3, .int .u32 x4, .int .u32 x5, .int .u32 x6, .int .u32 x7, .int .u32 x8, .int .u32 x9, .int .u32 x10, .int .u32 x11, .int .u32 x12, .int .u32 x13, .int .u32 x14, .int .u32 x15, .int .u64 x16] 25) (by simp)) 2
  have n3_0 : w0.cell? ⟨fb, 3, none⟩ = some (.int .u32 x3) := cell_at (H0.out.get (g := fb) (o := .cells #[.int .u32 x0, .int .u32 x1, .int .u32 x2, .int .u32 x3, .int .u32 x4, .int .u32 x5, .int .u32 x6, .int .u32 x7, .int .u32 x8, .int .u32 x9, .int .u32 x10, .int .u32 x11, .int .u32 x12, .int .u32 x13, .int .u32 x14, .int .u32 x15, .int .u64 x16] 25) (by simp)) 3
  have n4_0 : w0.cell? ⟨fb, 4, none⟩ = some (.int .u32 x4) := cell_at (H0.out.get (g := fb) (o := .cells #[.int .u32 x0, .int .u32 x1, .int .u32 x2, .int .u32 x3, .int .u32 x4, .int .u32 x5, .int .u32 x6, .int .u32 x7, .int .u32 x8, .int .u32 x9, .int .u32 x10, .int .u32 x11, .int .u32 x12, .int .u32 x13, .int .u32 x14, .int .u32 x15, .int .u64 x16] 25) (by simp)) 4
  have m_0 : w0.cell? ⟨b, 17, none⟩ = some (.int .i64 0) := cell_at (H0.out.get (g := b) (o := St.q ⟨x0, x1, x2, x3, x4, x5, x6, x7, x8, x9, x10, x11, x12, x13, x14, x15, x16, 0, pc⟩) (by simp)) 17
  go_wp2_with fail
  refine (first_calls _ (w32_bits (.inl rfl) _ _) _).mono ?_
  rw [HC.out.1]
  rw [HH.out]
  rintro e w1 ⟨rfl, hb⟩
  have k := H0.out.grown hb
  clear hb
  have H1 := _root_.Go.Lib.hid k
  clear k
  clear n0_0 n2_0 n3_0 n4_0 m_0
  clear H0
  have n0_1 : w1.cell? ⟨fb, 0, none⟩ = some (.int .u32 x0) := cell_at (H1.out.get (g := fb) (o := .cells #[.int .u32 x0, .int .u32 x1, .int .u32 x2, .int .u32 x3, .int .u32 x4, .int .u32 x5, .int .u32 x6, .int .u32 x7, .int .u32 x8, .int .u32 x9, .int .u32 x10, .int .u32 x11, .int .u32 x12, .int .u32 x13, .int .u32 x14, .int .u32 x15, .int .u64 x16] 25) (by simp)) 0
  have n2_1 : w1.cell? ⟨fb, 2, none⟩ = some (.int .u32 x2) := cell_at (H1.out.get (g := fb) (o := .cells #[.int .u32 x0, .int .u32 x1, .int .u32 x2, .int .u32 x3, .int .u32 x4, .int .u32 x5, .int .u32 x6, .int .u32 x7, .int .u32 x8, .int .u32 x9, .int .u32 x10, .int .u32 x11, .int .u32 x12, .int .u32 x13, .int .u32 x14, .int .u32 x15, .int .u64 x16] 25) (by simp)) 2
  have n3_1 : w1.cell? ⟨fb, 3, none⟩ = some (.int .u32 x3) := cell_at (H1.out.get (g := fb) (o := .cells #[.int .u32 x0, .int .u32 x1, .int .u32 x2, .int .u32 x3, .int .u32 x4, .int .u32 x5, .int .u32 x6, .int .u32 x7, .int .u32 x8, .int .u32 x9, .int .u32 x10, .int .u32 x11, .int .u32 x12, .int .u32 x13, .int .u32 x14, .int .u32 x15, .int .u64 x16] 25) (by simp)) 3
  have n4_1 : w1.cell? ⟨fb, 4, none⟩ = some (.int .u32 x4) := cell_at (H1.out.get (g := fb) (o := .cells #[.int .u32 x0, .int .u32 x1, .int .u32 x2, .int .u32 x3, .int .u32 x4, .int .u32 x5, .int .u32 x6, .int .u32 x7, .int .u32 x8, .int .u32 x9, .int .u32 x10, .int .u32 x11, .int .u32 x12, .int .u32 x13, .int .u32 x14, .int .u32 x15, .int .u64 x16] 25) (by simp)) 4
  have m_1 : w1.cell? ⟨b, 17, none⟩ = some (.int .i64 0) := cell_at (H1.out.get (g := b) (o := St.q ⟨x0, x1, x2, x3, x4, x5, x6, x7, x8, x9, x10, x11, x12, x13, x14, x15, x16, 0, pc⟩) (by simp)) 17
  have gn : ((n : Int) ≥ 0) = True := eq_true (by omega)
  have gn2 : (0 ≤ (n : Int)) = True := eq_true (by omega)
  go_wp2_with fail
  refine bodyPost_ret (results_two Tryd.results13 _ _ _) rfl ⟨?_, by first | exact H1.out.bel | (rw [hbb]; exact H1.out.bel)⟩
  obtain ⟨hs, hn⟩ := HS.out
  rw [hs]
  have e : ((2147483648 + (n : Int) % 4294967296) % 4294967296) = 2147483648 + (n : Int) := by omega
  first | rfl | exact congrArg (fun z => Ending.returned (.tuple #[.int .u32 z, .bool true])) e | (trace_state; exact congrArg (fun z => Ending.returned (.tuple #[.int .u32 z, .bool true])) (by omega))
set_option maxRecDepth 100000 in
set_option maxHeartbeats 1600000 in
theorem rpend_0l (s : St) (n : Nat) (hp : s.p = 0) (hF : Wf s) (hh : fInt (bits .andNot .u32 (sAsks s) s.x2) = -1) (hl : fInt (bits .and .u32 (sAsks s) s.x2) = (n : Int)) (hn : n < 32) (hs : sPend s = (2147483648 + (n : Int), true)) (w : World) : Calls Tryd.prog 13 #[.agg s.r] w fun e w' => e = .returned (.tuple #[.int .u32 (sPend s).1, .bool (sPend s).2]) ∧ Below w.heap.size w w' := by
  obtain ⟨x0, x1, x2, x3, x4, x5, x6, x7, x8, x9, x10, x11, x12, x13, x14, x15, x16, p, pc⟩ := s
  obtain rfl : p = 0 := hp
  have hcm := compl_and (bits .and .u32 x4 x3) x2 hF.h2
  have hx0 : W32 x0 := hF.h0
  clear hF
  have HC := _root_.Go.Lib.hid (And.intro hcm hx0)
  clear hcm hx0
  have hh2 : fInt (bits .andNot .u32 (bits .and .u32 x4 x3) x2) = -1 := hh
  have HH := _root_.Go.Lib.hid hh2
  clear hh hh2
  have hl2 : fInt (bits .and .u32 (bits .and .u32 x4 x3) x2) = (n : Int) := hl
  have HL := _root_.Go.Lib.hid hl2
  clear hl hl2
  have HS := _root_.Go.Lib.hid (And.intro hs hn)
  clear hs hn
  have hp1 := (KW.start (Below.refl w.heap.size w) (Nat.le_refl _)).push (St.q ⟨x0, x1, x2, x3, x4, x5, x6, x7, x8, x9, x10, x11, x12, x13, x14, x15, x16, 0, pc⟩)
  have e6 : (w.alloc (St.q ⟨x0, x1, x2, x3, x4, x5, x6, x7, x8, x9, x10, x11, x12, x13, x14, x15, x16, 0, pc⟩)).heap.size = w.heap.size + 1 := by rw [World.size_alloc]
  have hp2 := hp1.push fileY
  rw [e6] at hp2
  clear e6
  have HP := _root_.Go.Lib.hid hp1
  have HQ := _root_.Go.Lib.hid hp2
  clear hp1 hp2
  go_enter Tryd.func13, Tryd.ntmps13
  go_upto_region 2 with (first | ((with_reducible apply Go.Mem.wpList_load_part 25 (vs := #[.int .u32 x0, .int .u32 x1, .int .u32 x2, .int .u32 x3, .int .u32 x4, .int .u32 x5, .int .u32 x6, .int .u32 x7, .int .u32 x8, .int .u32 x9, .int .u32 x10, .int .u32 x11, .int .u32 x12, .int .u32 x13, .int .u32 x14, .int .u32 x15, .int .u64 x16]) Tryd.underlying25); rfl; rfl; (exact HP.out.get (g := w.heap.size) (o := St.q ⟨x0, x1, x2, x3, x4, x5, x6, x7, x8, x9, x10, x11, x12, x13, x14, x15, x16, 0, pc⟩) (by simp)); exact size25; rfl) | ((with_reducible apply wpList_store_at 25); rfl; rfl; (exact HQ.out.get (g := w.heap.size + 1) (o := fileY) (by simp)); exact size25; rfl; rfl; rfl; (have h2 := KW.row (vs := #[.int .u32 x0, .int .u32 x1, .int .u32 x2, .int .u32 x3, .int .u32 x4, .int .u32 x5, .int .u32 x6, .int .u32 x7, .int .u32 x8, .int .u32 x9, .int .u32 x10, .int .u32 x11, .int .u32 x12, .int .u32 x13, .int .u32 x14, .int .u32 x15, .int .u64 x16]) HQ.out); (generalize World.setRow _ (w.heap.size + 1) _ = w0 at h2 ⊢)))
  clear HP HQ
  generalize hbb : w.heap.size = b at h2 ⊢
  generalize hbb2 : b + 1 = fb at h2 ⊢
  have H0 := _root_.Go.Lib.hid h2
  clear h2
  have n0_0 : w0.cell? ⟨fb, 0, none⟩ = some (.int .u32 x0) := cell_at (H0.out.get (g := fb) (o := .cells #[.int .u32 x0, .int .u32 x1, .int .u32 x2, .int .u32 x3, .int .u32 x4, .int .u32 x5, .int .u32 x6, .int .u32 x7, .int .u32 x8, .int .u32 x9, .int .u32 x10, .int .u32 x11, .int .u32 x12, .int .u32 x13, .int .u32 x14, .int .u32 x15, .int .u64 x16] 25) (by simp)) 0
  have n2_0 : w0.cell? ⟨fb, 2, none⟩ = some (.int .u32 x2) := cell_at (H0.out.get (g := fb) (o := .cells #[.int .u32 x0, .int .u32 x1, .int .u32 x2, .int .u32 x3, .int .u32 x4, .int .u32 x5, .int .u32 x6, .int .u32 x7, .int .u32 x8, .int .u32 x9, .int .u32 x10, .int .u32 x11, .int .u32 x12, .int .u32 x13, .int .u32 x14, .int .u32 x15, .int .u64 x16] 25) (by simp)) 2
  have n3_0 : w0.cell? ⟨fb, 3, none⟩ = some (.int .u32 x3) := cell_at (H0.out.get (g := fb) (o := .cells #[.int .u32 x0, .int .u32 x1, .int .u32 x2, .int .u32 x3, .int .u32 x4, .int .u32 x5, .int .u32 x6, .int .u32 x7, .int .u32 x8, .int .u32 x9, .int .u32 x10, .int .u32 x11, .int .u32 x12, .int .u32 x13, .int .u32 x14, .int .u32 x15, .int .u64 x16] 25) (by simp)) 3
  have n4_0 : w0.cell? ⟨fb, 4, none⟩ = some (.int .u32 x4) := cell_at (H0.out.get (g := fb) (o := .cells #[.int .u32 x0, .int .u32 x1, .int .u32 x2, .int .u32 x3, .int .u32 x4, .int .u32 x5, .int .u32 x6, .int .u32 x7, .int .u32 x8, .int .u32 x9, .int .u32 x10, .int .u32 x11, .int .u32 x12, .int .u32 x13, .int .u32 x14, .int .u32 x15, .int .u64 x16] 25) (by simp)) 4
  have m_0 : w0.cell? ⟨b, 17, none⟩ = some (.int .i64 0) := cell_at (H0.out.get (g := b) (o := St.q ⟨x0, x1, x2, x3, x4, x5, x6, x7, x8, x9, x10, x11, x12, x13, x14, x15, x16, 0, pc⟩) (by simp)) 17
  go_wp2_with fail
  refine (first_calls _ (w32_bits (.inl rfl) _ _) _).mono ?_
  rw [HC.out.1]
  rw [HH.out]
  rintro e w1 ⟨rfl, hb⟩
  have k := H0.out.grown hb
  clear hb
  have H1 := _root_.Go.Lib.hid k
  clear k
  clear n0_0 n2_0 n3_0 n4_0 m_0
  clear H0
  have n0_1 : w1.cell? ⟨fb, 0, none⟩ = some (.int .u32 x0) := cell_at (H1.out.get (g := fb) (o := .cells #[.int .u32 x0, .int .u32 x1, .int .u32 x2, .int .u32 x3, .int .u32 x4, .int .u32 x5, .int .u32 x6, .int .u32 x7, .int .u32 x8, .int .u32 x9, .int .u32 x10, .int .u32 x11, .int .u32 x12, .int .u32 x13, .int .u32 x14, .int .u32 x15, .int .u64 x16] 25) (by simp)) 0
  have n2_1 : w1.cell? ⟨fb, 2, none⟩ = some (.int .u32 x2) := cell_at (H1.out.get (g := fb) (o := .cells #[.int .u32 x0, .int .u32 x1, .int .u32 x2, .int .u32 x3, .int .u32 x4, .int .u32 x5, .int .u32 x6, .int .u32 x7, .int .u32 x8, .int .u32 x9, .int .u32 x10, .int .u32 x11, .int .u32 x12, .int .u32 x13, .int .u32 x14, .int .u32 x15, .int .u64 x16] 25) (by simp)) 2
  have n3_1 : w1.cell? ⟨fb, 3, none⟩ = some (.int .u32 x3) := cell_at (H1.out.get (g := fb) (o := .cells #[.int .u32 x0, .int .u32 x1, .int .u32 x2, .int .u32 x3, .int .u32 x4, .int .u32 x5, .int .u32 x6, .int .u32 x7, .int .u32 x8, .int .u32 x9, .int .u32 x10, .int .u32 x11, .int .u32 x12, .int .u32 x13, .int .u32 x14, .int .u32 x15, .int .u64 x16] 25) (by simp)) 3
  have n4_1 : w1.cell? ⟨fb, 4, none⟩ = some (.int .u32 x4) := cell_at (H1.out.get (g := fb) (o := .cells #[.int .u32 x0, .int .u32 x1, .int .u32 x2, .int .u32 x3, .int .u32 x4, .int .u32 x5, .int .u32 x6, .int .u32 x7, .int .u32 x8, .int .u32 x9, .int .u32 x10, .int .u32 x11, .int .u32 x12, .int .u32 x13, .int .u32 x14, .int .u32 x15, .int .u64 x16] 25) (by simp)) 4
  have m_1 : w1.cell? ⟨b, 17, none⟩ = some (.int .i64 0) := cell_at (H1.out.get (g := b) (o := St.q ⟨x0, x1, x2, x3, x4, x5, x6, x7, x8, x9, x10, x11, x12, x13, x14, x15, x16, 0, pc⟩) (by simp)) 17
  go_wp2_with fail
  refine (first_calls _ (w32_bits (.inl rfl) _ _) _).mono ?_
  rw [HL.out]
  rintro e w2 ⟨rfl, hb⟩
  have k := H1.out.grown hb
  clear hb
  have H2 := _root_.Go.Lib.hid k
  clear k
  clear n0_1 n2_1 n3_1 n4_1 m_1
  clear H1
  have n0_2 : w2.cell? ⟨fb, 0, none⟩ = some (.int .u32 x0) := cell_at (H2.out.get (g := fb) (o := .cells #[.int .u32 x0, .int .u32 x1, .int .u32 x2, .int .u32 x3, .int .u32 x4, .int .u32 x5, .int .u32 x6, .int .u32 x7, .int .u32 x8, .int .u32 x9, .int .u32 x10, .int .u32 x11, .int .u32 x12, .int .u32 x13, .int .u32 x14, .int .u32 x15, .int .u64 x16] 25) (by simp)) 0
  have n2_2 : w2.cell? ⟨fb, 2, none⟩ = some (.int .u32 x2) := cell_at (H2.out.get (g := fb) (o := .cells #[.int .u32 x0, .int .u32 x1, .int .u32 x2, .int .u32 x3, .int .u32 x4, .int .u32 x5, .int .u32 x6, .int .u32 x7, .int .u32 x8, .int .u32 x9, .int .u32 x10, .int .u32 x11, .int .u32 x12, .int .u32 x13, .int .u32 x14, .int .u32 x15, .int .u64 x16] 25) (by simp)) 2
  have n3_2 : w2.cell? ⟨fb, 3, none⟩ = some (.int .u32 x3) := cell_at (H2.out.get (g := fb) (o := .cells #[.int .u32 x0, .int .u32 x1, .int .u32 x2, .int .u32 x3, .int .u32 x4, .int .u32 x5, .int .u32 x6, .int .u32 x7, .int .u32 x8, .int .u32 x9, .int .u32 x10, .int .u32 x11, .int .u32 x12, .int .u32 x13, .int .u32 x14, .int .u32 x15, .int .u64 x16] 25) (by simp)) 3
  have n4_2 : w2.cell? ⟨fb, 4, none⟩ = some (.int .u32 x4) := cell_at (H2.out.get (g := fb) (o := .cells #[.int .u32 x0, .int .u32 x1, .int .u32 x2, .int .u32 x3, .int .u32 x4, .int .u32 x5, .int .u32 x6, .int .u32 x7, .int .u32 x8, .int .u32 x9, .int .u32 x10, .int .u32 x11, .int .u32 x12, .int .u32 x13, .int .u32 x14, .int .u32 x15, .int .u64 x16] 25) (by simp)) 4
  have m_2 : w2.cell? ⟨b, 17, none⟩ = some (.int .i64 0) := cell_at (H2.out.get (g := b) (o := St.q ⟨x0, x1, x2, x3, x4, x5, x6, x7, x8, x9, x10, x11, x12, x13, x14, x15, x16, 0, pc⟩) (by simp)) 17
  have gn : ((n : Int) ≥ 0) = True := eq_true (by omega)
  have gn2 : (0 ≤ (n : Int)) = True := eq_true (by omega)
  go_wp2_with fail
  refine bodyPost_ret (results_two Tryd.results13 _ _ _) rfl ⟨?_, by first | exact H2.out.bel | (rw [hbb]; exact H2.out.bel)⟩
  obtain ⟨hs, hn⟩ := HS.out
  rw [hs]
  have e : ((2147483648 + (n : Int) % 4294967296) % 4294967296) = 2147483648 + (n : Int) := by omega
  first | rfl | exact congrArg (fun z => Ending.returned (.tuple #[.int .u32 z, .bool true])) e | (trace_state; exact congrArg (fun z => Ending.returned (.tuple #[.int .u32 z, .bool true])) (by omega))
set_option maxRecDepth 100000 in
set_option maxHeartbeats 1600000 in
theorem rpend_0n (s : St) (n : Nat) (hp : s.p = 0) (hF : Wf s) (hh : fInt (bits .andNot .u32 (sAsks s) s.x2) = -1) (hl : fInt (bits .and .u32 (sAsks s) s.x2) = -1) (hn : n < 32) (hs : sPend s = (0, false)) (w : World) : Calls Tryd.prog 13 #[.agg s.r] w fun e w' => e = .returned (.tuple #[.int .u32 (sPend s).1, .bool (sPend s).2]) ∧ Below w.heap.size w w' := by
  obtain ⟨x0, x1, x2, x3, x4, x5, x6, x7, x8, x9, x10, x11, x12, x13, x14, x15, x16, p, pc⟩ := s
  obtain rfl : p = 0 := hp
  have hcm := compl_and (bits .and .u32 x4 x3) x2 hF.h2
  have hx0 : W32 x0 := hF.h0
  clear hF
  have HC := _root_.Go.Lib.hid (And.intro hcm hx0)
  clear hcm hx0
  have hh2 : fInt (bits .andNot .u32 (bits .and .u32 x4 x3) x2) = -1 := hh
  have HH := _root_.Go.Lib.hid hh2
  clear hh hh2
  have hl2 : fInt (bits .and .u32 (bits .and .u32 x4 x3) x2) = -1 := hl
  have HL := _root_.Go.Lib.hid hl2
  clear hl hl2
  have HS := _root_.Go.Lib.hid (And.intro hs hn)
  clear hs hn
  have hp1 := (KW.start (Below.refl w.heap.size w) (Nat.le_refl _)).push (St.q ⟨x0, x1, x2, x3, x4, x5, x6, x7, x8, x9, x10, x11, x12, x13, x14, x15, x16, 0, pc⟩)
  have e6 : (w.alloc (St.q ⟨x0, x1, x2, x3, x4, x5, x6, x7, x8, x9, x10, x11, x12, x13, x14, x15, x16, 0, pc⟩)).heap.size = w.heap.size + 1 := by rw [World.size_alloc]
  have hp2 := hp1.push fileY
  rw [e6] at hp2
  clear e6
  have HP := _root_.Go.Lib.hid hp1
  have HQ := _root_.Go.Lib.hid hp2
  clear hp1 hp2
  go_enter Tryd.func13, Tryd.ntmps13
  go_upto_region 2 with (first | ((with_reducible apply Go.Mem.wpList_load_part 25 (vs := #[.int .u32 x0, .int .u32 x1, .int .u32 x2, .int .u32 x3, .int .u32 x4, .int .u32 x5, .int .u32 x6, .int .u32 x7, .int .u32 x8, .int .u32 x9, .int .u32 x10, .int .u32 x11, .int .u32 x12, .int .u32 x13, .int .u32 x14, .int .u32 x15, .int .u64 x16]) Tryd.underlying25); rfl; rfl; (exact HP.out.get (g := w.heap.size) (o := St.q ⟨x0, x1, x2, x3, x4, x5, x6, x7, x8, x9, x10, x11, x12, x13, x14, x15, x16, 0, pc⟩) (by simp)); exact size25; rfl) | ((with_reducible apply wpList_store_at 25); rfl; rfl; (exact HQ.out.get (g := w.heap.size + 1) (o := fileY) (by simp)); exact size25; rfl; rfl; rfl; (have h2 := KW.row (vs := #[.int .u32 x0, .int .u32 x1, .int .u32 x2, .int .u32 x3, .int .u32 x4, .int .u32 x5, .int .u32 x6, .int .u32 x7, .int .u32 x8, .int .u32 x9, .int .u32 x10, .int .u32 x11, .int .u32 x12, .int .u32 x13, .int .u32 x14, .int .u32 x15, .int .u64 x16]) HQ.out); (generalize World.setRow _ (w.heap.size + 1) _ = w0 at h2 ⊢)))
  clear HP HQ
  generalize hbb : w.heap.size = b at h2 ⊢
  generalize hbb2 : b + 1 = fb at h2 ⊢
  have H0 := _root_.Go.Lib.hid h2
  clear h2
  have n0_0 : w0.cell? ⟨fb, 0, none⟩ = some (.int .u32 x0) := cell_at (H0.out.get (g := fb) (o := .cells #[.int .u32 x0, .int .u32 x1, .int .u32 x2, .int .u32 x3, .int .u32 x4, .int .u32 x5, .int .u32 x6, .int .u32 x7, .int .u32 x8, .int .u32 x9, .int .u32 x10, .int .u32 x11, .int .u32 x12, .int .u32 x13, .int .u32 x14, .int .u32 x15, .int .u64 x16] 25) (by simp)) 0
  have n2_0 : w0.cell? ⟨fb, 2, none⟩ = some (.int .u32 x2) := cell_at (H0.out.get (g := fb) (o := .cells #[.int .u32 x0, .int .u32 x1, .int .u32 x2, .int .u32 x3, .int .u32 x4, .int .u32 x5, .int .u32 x6, .int .u32 x7, .int .u32 x8, .int .u32 x9, .int .u32 x10, .int .u32 x11, .int .u32 x12, .int .u32 x13, .int .u32 x14, .int .u32 x15, .int .u64 x16] 25) (by simp)) 2
  have n3_0 : w0.cell? ⟨fb, 3, none⟩ = some (.int .u32 x3) := cell_at (H0.out.get (g := fb) (o := .cells #[.int .u32 x0, .int .u32 x1, .int .u32 x2, .int .u32 x3, .int .u32 x4, .int .u32 x5, .int .u32 x6, .int .u32 x7, .int .u32 x8, .int .u32 x9, .int .u32 x10, .int .u32 x11, .int .u32 x12, .int .u32 x13, .int .u32 x14, .int .u32 x15, .int .u64 x16] 25) (by simp)) 3
  have n4_0 : w0.cell? ⟨fb, 4, none⟩ = some (.int .u32 x4) := cell_at (H0.out.get (g := fb) (o := .cells #[.int .u32 x0, .int .u32 x1, .int .u32 x2, .int .u32 x3, .int .u32 x4, .int .u32 x5, .int .u32 x6, .int .u32 x7, .int .u32 x8, .int .u32 x9, .int .u32 x10, .int .u32 x11, .int .u32 x12, .int .u32 x13, .int .u32 x14, .int .u32 x15, .int .u64 x16] 25) (by simp)) 4
  have m_0 : w0.cell? ⟨b, 17, none⟩ = some (.int .i64 0) := cell_at (H0.out.get (g := b) (o := St.q ⟨x0, x1, x2, x3, x4, x5, x6, x7, x8, x9, x10, x11, x12, x13, x14, x15, x16, 0, pc⟩) (by simp)) 17
  go_wp2_with fail
  refine (first_calls _ (w32_bits (.inl rfl) _ _) _).mono ?_
  rw [HC.out.1]
  rw [HH.out]
  rintro e w1 ⟨rfl, hb⟩
  have k := H0.out.grown hb
  clear hb
  have H1 := _root_.Go.Lib.hid k
  clear k
  clear n0_0 n2_0 n3_0 n4_0 m_0
  clear H0
  have n0_1 : w1.cell? ⟨fb, 0, none⟩ = some (.int .u32 x0) := cell_at (H1.out.get (g := fb) (o := .cells #[.int .u32 x0, .int .u32 x1, .int .u32 x2, .int .u32 x3, .int .u32 x4, .int .u32 x5, .int .u32 x6, .int .u32 x7, .int .u32 x8, .int .u32 x9, .int .u32 x10, .int .u32 x11, .int .u32 x12, .int .u32 x13, .int .u32 x14, .int .u32 x15, .int .u64 x16] 25) (by simp)) 0
  have n2_1 : w1.cell? ⟨fb, 2, none⟩ = some (.int .u32 x2) := cell_at (H1.out.get (g := fb) (o := .cells #[.int .u32 x0, .int .u32 x1, .int .u32 x2, .int .u32 x3, .int .u32 x4, .int .u32 x5, .int .u32 x6, .int .u32 x7, .int .u32 x8, .int .u32 x9, .int .u32 x10, .int .u32 x11, .int .u32 x12, .int .u32 x13, .int .u32 x14, .int .u32 x15, .int .u64 x16] 25) (by simp)) 2
  have n3_1 : w1.cell? ⟨fb, 3, none⟩ = some (.int .u32 x3) := cell_at (H1.out.get (g := fb) (o := .cells #[.int .u32 x0, .int .u32 x1, .int .u32 x2, .int .u32 x3, .int .u32 x4, .int .u32 x5, .int .u32 x6, .int .u32 x7, .int .u32 x8, .int .u32 x9, .int .u32 x10, .int .u32 x11, .int .u32 x12, .int .u32 x13, .int .u32 x14, .int .u32 x15, .int .u64 x16] 25) (by simp)) 3
  have n4_1 : w1.cell? ⟨fb, 4, none⟩ = some (.int .u32 x4) := cell_at (H1.out.get (g := fb) (o := .cells #[.int .u32 x0, .int .u32 x1, .int .u32 x2, .int .u32 x3, .int .u32 x4, .int .u32 x5, .int .u32 x6, .int .u32 x7, .int .u32 x8, .int .u32 x9, .int .u32 x10, .int .u32 x11, .int .u32 x12, .int .u32 x13, .int .u32 x14, .int .u32 x15, .int .u64 x16] 25) (by simp)) 4
  have m_1 : w1.cell? ⟨b, 17, none⟩ = some (.int .i64 0) := cell_at (H1.out.get (g := b) (o := St.q ⟨x0, x1, x2, x3, x4, x5, x6, x7, x8, x9, x10, x11, x12, x13, x14, x15, x16, 0, pc⟩) (by simp)) 17
  go_wp2_with fail
  refine (first_calls _ (w32_bits (.inl rfl) _ _) _).mono ?_
  rw [HL.out]
  rintro e w2 ⟨rfl, hb⟩
  have k := H1.out.grown hb
  clear hb
  have H2 := _root_.Go.Lib.hid k
  clear k
  clear n0_1 n2_1 n3_1 n4_1 m_1
  clear H1
  have n0_2 : w2.cell? ⟨fb, 0, none⟩ = some (.int .u32 x0) := cell_at (H2.out.get (g := fb) (o := .cells #[.int .u32 x0, .int .u32 x1, .int .u32 x2, .int .u32 x3, .int .u32 x4, .int .u32 x5, .int .u32 x6, .int .u32 x7, .int .u32 x8, .int .u32 x9, .int .u32 x10, .int .u32 x11, .int .u32 x12, .int .u32 x13, .int .u32 x14, .int .u32 x15, .int .u64 x16] 25) (by simp)) 0
  have n2_2 : w2.cell? ⟨fb, 2, none⟩ = some (.int .u32 x2) := cell_at (H2.out.get (g := fb) (o := .cells #[.int .u32 x0, .int .u32 x1, .int .u32 x2, .int .u32 x3, .int .u32 x4, .int .u32 x5, .int .u32 x6, .int .u32 x7, .int .u32 x8, .int .u32 x9, .int .u32 x10, .int .u32 x11, .int .u32 x12, .int .u32 x13, .int .u32 x14, .int .u32 x15, .int .u64 x16] 25) (by simp)) 2
  have n3_2 : w2.cell? ⟨fb, 3, none⟩ = some (.int .u32 x3) := cell_at (H2.out.get (g := fb) (o := .cells #[.int .u32 x0, .int .u32 x1, .int .u32 x2, .int .u32 x3, .int .u32 x4, .int .u32 x5, .int .u32 x6, .int .u32 x7, .int .u32 x8, .int .u32 x9, .int .u32 x10, .int .u32 x11, .int .u32 x12, .int .u32 x13, .int .u32 x14, .int .u32 x15, .int .u64 x16] 25) (by simp)) 3
  have n4_2 : w2.cell? ⟨fb, 4, none⟩ = some (.int .u32 x4) := cell_at (H2.out.get (g := fb) (o := .cells #[.int .u32 x0, .int .u32 x1, .int .u32 x2, .int .u32 x3, .int .u32 x4, .int .u32 x5, .int .u32 x6, .int .u32 x7, .int .u32 x8, .int .u32 x9, .int .u32 x10, .int .u32 x11, .int .u32 x12, .int .u32 x13, .int .u32 x14, .int .u32 x15, .int .u64 x16] 25) (by simp)) 4
  have m_2 : w2.cell? ⟨b, 17, none⟩ = some (.int .i64 0) := cell_at (H2.out.get (g := b) (o := St.q ⟨x0, x1, x2, x3, x4, x5, x6, x7, x8, x9, x10, x11, x12, x13, x14, x15, x16, 0, pc⟩) (by simp)) 17
  go_wp2_with fail
  refine bodyPost_ret (results_two Tryd.results13 _ _ _) rfl ⟨?_, by first | exact H2.out.bel | (rw [hbb]; exact H2.out.bel)⟩
  obtain ⟨hs, hn⟩ := HS.out
  rw [hs]
  rfl
set_option maxRecDepth 100000 in
set_option maxHeartbeats 1600000 in
theorem rpend_1fh (s : St) (n : Nat) (hp : s.p = 1) (hF : Wf s) (hc : hb s.x0 1 = false) (hh : fInt (bits .andNot .u32 (sAsks s) s.x2) = (n : Int)) (hn : n < 32) (hs : sPend s = (2147483648 + (n : Int), true)) (w : World) : Calls Tryd.prog 13 #[.agg s.r] w fun e w' => e = .returned (.tuple #[.int .u32 (sPend s).1, .bool (sPend s).2]) ∧ Below w.heap.size w w' := by
  obtain ⟨x0, x1, x2, x3, x4, x5, x6, x7, x8, x9, x10, x11, x12, x13, x14, x15, x16, p, pc⟩ := s
  obtain rfl : p = 1 := hp
  have hcm := compl_and (bits .and .u32 x4 x3) x2 hF.h2
  have hx0 : W32 x0 := hF.h0
  clear hF
  have HC := _root_.Go.Lib.hid (And.intro hcm hx0)
  clear hcm hx0
  have HD := _root_.Go.Lib.hid hc
  clear hc
  have hh2 : fInt (bits .andNot .u32 (bits .and .u32 x4 x3) x2) = (n : Int) := hh
  have HH := _root_.Go.Lib.hid hh2
  clear hh hh2
  have HS := _root_.Go.Lib.hid (And.intro hs hn)
  clear hs hn
  have hp1 := (KW.start (Below.refl w.heap.size w) (Nat.le_refl _)).push (St.q ⟨x0, x1, x2, x3, x4, x5, x6, x7, x8, x9, x10, x11, x12, x13, x14, x15, x16, 1, pc⟩)
  have e6 : (w.alloc (St.q ⟨x0, x1, x2, x3, x4, x5, x6, x7, x8, x9, x10, x11, x12, x13, x14, x15, x16, 1, pc⟩)).heap.size = w.heap.size + 1 := by rw [World.size_alloc]
  have hp2 := hp1.push fileY
  rw [e6] at hp2
  clear e6
  have HP := _root_.Go.Lib.hid hp1
  have HQ := _root_.Go.Lib.hid hp2
  clear hp1 hp2
  go_enter Tryd.func13, Tryd.ntmps13
  go_upto_region 2 with (first | ((with_reducible apply Go.Mem.wpList_load_part 25 (vs := #[.int .u32 x0, .int .u32 x1, .int .u32 x2, .int .u32 x3, .int .u32 x4, .int .u32 x5, .int .u32 x6, .int .u32 x7, .int .u32 x8, .int .u32 x9, .int .u32 x10, .int .u32 x11, .int .u32 x12, .int .u32 x13, .int .u32 x14, .int .u32 x15, .int .u64 x16]) Tryd.underlying25); rfl; rfl; (exact HP.out.get (g := w.heap.size) (o := St.q ⟨x0, x1, x2, x3, x4, x5, x6, x7, x8, x9, x10, x11, x12, x13, x14, x15, x16, 1, pc⟩) (by simp)); exact size25; rfl) | ((with_reducible apply wpList_store_at 25); rfl; rfl; (exact HQ.out.get (g := w.heap.size + 1) (o := fileY) (by simp)); exact size25; rfl; rfl; rfl; (have h2 := KW.row (vs := #[.int .u32 x0, .int .u32 x1, .int .u32 x2, .int .u32 x3, .int .u32 x4, .int .u32 x5, .int .u32 x6, .int .u32 x7, .int .u32 x8, .int .u32 x9, .int .u32 x10, .int .u32 x11, .int .u32 x12, .int .u32 x13, .int .u32 x14, .int .u32 x15, .int .u64 x16]) HQ.out); (generalize World.setRow _ (w.heap.size + 1) _ = w0 at h2 ⊢)))
  clear HP HQ
  generalize hbb : w.heap.size = b at h2 ⊢
  generalize hbb2 : b + 1 = fb at h2 ⊢
  have H0 := _root_.Go.Lib.hid h2
  clear h2
  have n0_0 : w0.cell? ⟨fb, 0, none⟩ = some (.int .u32 x0) := cell_at (H0.out.get (g := fb) (o := .cells #[.int .u32 x0, .int .u32 x1, .int .u32 x2, .int .u32 x3, .int .u32 x4, .int .u32 x5, .int .u32 x6, .int .u32 x7, .int .u32 x8, .int .u32 x9, .int .u32 x10, .int .u32 x11, .int .u32 x12, .int .u32 x13, .int .u32 x14, .int .u32 x15, .int .u64 x16] 25) (by simp)) 0
  have n2_0 : w0.cell? ⟨fb, 2, none⟩ = some (.int .u32 x2) := cell_at (H0.out.get (g := fb) (o := .cells #[.int .u32 x0, .int .u32 x1, .int .u32 x2, .int .u32 x3, .int .u32 x4, .int .u32 x5, .int .u32 x6, .int .u32 x7, .int .u32 x8, .int .u32 x9, .int .u32 x10, .int .u32 x11, .int .u32 x12, .int .u32 x13, .int .u32 x14, .int .u32 x15, .int .u64 x16] 25) (by simp)) 2
  have n3_0 : w0.cell? ⟨fb, 3, none⟩ = some (.int .u32 x3) := cell_at (H0.out.get (g := fb) (o := .cells #[.int .u32 x0, .int .u32 x1, .int .u32 x2, .int .u32 x3, .int .u32 x4, .int .u32 x5, .int .u32 x6, .int .u32 x7, .int .u32 x8, .int .u32 x9, .int .u32 x10, .int .u32 x11, .int .u32 x12, .int .u32 x13, .int .u32 x14, .int .u32 x15, .int .u64 x16] 25) (by simp)) 3
  have n4_0 : w0.cell? ⟨fb, 4, none⟩ = some (.int .u32 x4) := cell_at (H0.out.get (g := fb) (o := .cells #[.int .u32 x0, .int .u32 x1, .int .u32 x2, .int .u32 x3, .int .u32 x4, .int .u32 x5, .int .u32 x6, .int .u32 x7, .int .u32 x8, .int .u32 x9, .int .u32 x10, .int .u32 x11, .int .u32 x12, .int .u32 x13, .int .u32 x14, .int .u32 x15, .int .u64 x16] 25) (by simp)) 4
  have m_0 : w0.cell? ⟨b, 17, none⟩ = some (.int .i64 1) := cell_at (H0.out.get (g := b) (o := St.q ⟨x0, x1, x2, x3, x4, x5, x6, x7, x8, x9, x10, x11, x12, x13, x14, x15, x16, 1, pc⟩) (by simp)) 17
  go_wp2_with (go_at_call 20; refine (rbit_calls x0 HC.out.2 1 (by decide) _).mono ?_; rw [HD.out]; rintro e wq ⟨rfl, rfl⟩)
  refine (first_calls _ (w32_bits (.inl rfl) _ _) _).mono ?_
  rw [HC.out.1]
  rw [HH.out]
  rintro e w1 ⟨rfl, hb⟩
  have k := H0.out.grown hb
  clear hb
  have H1 := _root_.Go.Lib.hid k
  clear k
  clear n0_0 n2_0 n3_0 n4_0 m_0
  clear H0
  have n0_1 : w1.cell? ⟨fb, 0, none⟩ = some (.int .u32 x0) := cell_at (H1.out.get (g := fb) (o := .cells #[.int .u32 x0, .int .u32 x1, .int .u32 x2, .int .u32 x3, .int .u32 x4, .int .u32 x5, .int .u32 x6, .int .u32 x7, .int .u32 x8, .int .u32 x9, .int .u32 x10, .int .u32 x11, .int .u32 x12, .int .u32 x13, .int .u32 x14, .int .u32 x15, .int .u64 x16] 25) (by simp)) 0
  have n2_1 : w1.cell? ⟨fb, 2, none⟩ = some (.int .u32 x2) := cell_at (H1.out.get (g := fb) (o := .cells #[.int .u32 x0, .int .u32 x1, .int .u32 x2, .int .u32 x3, .int .u32 x4, .int .u32 x5, .int .u32 x6, .int .u32 x7, .int .u32 x8, .int .u32 x9, .int .u32 x10, .int .u32 x11, .int .u32 x12, .int .u32 x13, .int .u32 x14, .int .u32 x15, .int .u64 x16] 25) (by simp)) 2
  have n3_1 : w1.cell? ⟨fb, 3, none⟩ = some (.int .u32 x3) := cell_at (H1.out.get (g := fb) (o := .cells #[.int .u32 x0, .int .u32 x1, .int .u32 x2, .int .u32 x3, .int .u32 x4, .int .u32 x5, .int .u32 x6, .int .u32 x7, .int .u32 x8, .int .u32 x9, .int .u32 x10, .int .u32 x11, .int .u32 x12, .int .u32 x13, .int .u32 x14, .int .u32 x15, .int .u64 x16] 25) (by simp)) 3
  have n4_1 : w1.cell? ⟨fb, 4, none⟩ = some (.int .u32 x4) := cell_at (H1.out.get (g := fb) (o := .cells #[.int .u32 x0, .int .u32 x1, .int .u32 x2, .int .u32 x3, .int .u32 x4, .int .u32 x5, .int .u32 x6, .int .u32 x7, .int .u32 x8, .int .u32 x9, .int .u32 x10, .int .u32 x11, .int .u32 x12, .int .u32 x13, .int .u32 x14, .int .u32 x15, .int .u64 x16] 25) (by simp)) 4
  have m_1 : w1.cell? ⟨b, 17, none⟩ = some (.int .i64 1) := cell_at (H1.out.get (g := b) (o := St.q ⟨x0, x1, x2, x3, x4, x5, x6, x7, x8, x9, x10, x11, x12, x13, x14, x15, x16, 1, pc⟩) (by simp)) 17
  have gn : ((n : Int) ≥ 0) = True := eq_true (by omega)
  have gn2 : (0 ≤ (n : Int)) = True := eq_true (by omega)
  go_wp2_with (go_at_call 20; refine (rbit_calls x0 HC.out.2 1 (by decide) _).mono ?_; rw [HD.out]; rintro e wq ⟨rfl, rfl⟩)
  refine bodyPost_ret (results_two Tryd.results13 _ _ _) rfl ⟨?_, by first | exact H1.out.bel | (rw [hbb]; exact H1.out.bel)⟩
  obtain ⟨hs, hn⟩ := HS.out
  rw [hs]
  have e : ((2147483648 + (n : Int) % 4294967296) % 4294967296) = 2147483648 + (n : Int) := by omega
  first | rfl | exact congrArg (fun z => Ending.returned (.tuple #[.int .u32 z, .bool true])) e | (trace_state; exact congrArg (fun z => Ending.returned (.tuple #[.int .u32 z, .bool true])) (by omega))
set_option maxRecDepth 100000 in
set_option maxHeartbeats 1600000 in
theorem rpend_1fn (s : St) (n : Nat) (hp : s.p = 1) (hF : Wf s) (hc : hb s.x0 1 = false) (hh : fInt (bits .andNot .u32 (sAsks s) s.x2) = -1) (hn : n < 32) (hs : sPend s = (0, false)) (w : World) : Calls Tryd.prog 13 #[.agg s.r] w fun e w' => e = .returned (.tuple #[.int .u32 (sPend s).1, .bool (sPend s).2]) ∧ Below w.heap.size w w' := by
  obtain ⟨x0, x1, x2, x3, x4, x5, x6, x7, x8, x9, x10, x11, x12, x13, x14, x15, x16, p, pc⟩ := s
  obtain rfl : p = 1 := hp
  have hcm := compl_and (bits .and .u32 x4 x3) x2 hF.h2
  have hx0 : W32 x0 := hF.h0
  clear hF
  have HC := _root_.Go.Lib.hid (And.intro hcm hx0)
  clear hcm hx0
  have HD := _root_.Go.Lib.hid hc
  clear hc
  have hh2 : fInt (bits .andNot .u32 (bits .and .u32 x4 x3) x2) = -1 := hh
  have HH := _root_.Go.Lib.hid hh2
  clear hh hh2
  have HS := _root_.Go.Lib.hid (And.intro hs hn)
  clear hs hn
  have hp1 := (KW.start (Below.refl w.heap.size w) (Nat.le_refl _)).push (St.q ⟨x0, x1, x2, x3, x4, x5, x6, x7, x8, x9, x10, x11, x12, x13, x14, x15, x16, 1, pc⟩)
  have e6 : (w.alloc (St.q ⟨x0, x1, x2, x3, x4, x5, x6, x7, x8, x9, x10, x11, x12, x13, x14, x15, x16, 1, pc⟩)).heap.size = w.heap.size + 1 := by rw [World.size_alloc]
  have hp2 := hp1.push fileY
  rw [e6] at hp2
  clear e6
  have HP := _root_.Go.Lib.hid hp1
  have HQ := _root_.Go.Lib.hid hp2
  clear hp1 hp2
  go_enter Tryd.func13, Tryd.ntmps13
  go_upto_region 2 with (first | ((with_reducible apply Go.Mem.wpList_load_part 25 (vs := #[.int .u32 x0, .int .u32 x1, .int .u32 x2, .int .u32 x3, .int .u32 x4, .int .u32 x5, .int .u32 x6, .int .u32 x7, .int .u32 x8, .int .u32 x9, .int .u32 x10, .int .u32 x11, .int .u32 x12, .int .u32 x13, .int .u32 x14, .int .u32 x15, .int .u64 x16]) Tryd.underlying25); rfl; rfl; (exact HP.out.get (g := w.heap.size) (o := St.q ⟨x0, x1, x2, x3, x4, x5, x6, x7, x8, x9, x10, x11, x12, x13, x14, x15, x16, 1, pc⟩) (by simp)); exact size25; rfl) | ((with_reducible apply wpList_store_at 25); rfl; rfl; (exact HQ.out.get (g := w.heap.size + 1) (o := fileY) (by simp)); exact size25; rfl; rfl; rfl; (have h2 := KW.row (vs := #[.int .u32 x0, .int .u32 x1, .int .u32 x2, .int .u32 x3, .int .u32 x4, .int .u32 x5, .int .u32 x6, .int .u32 x7, .int .u32 x8, .int .u32 x9, .int .u32 x10, .int .u32 x11, .int .u32 x12, .int .u32 x13, .int .u32 x14, .int .u32 x15, .int .u64 x16]) HQ.out); (generalize World.setRow _ (w.heap.size + 1) _ = w0 at h2 ⊢)))
  clear HP HQ
  generalize hbb : w.heap.size = b at h2 ⊢
  generalize hbb2 : b + 1 = fb at h2 ⊢
  have H0 := _root_.Go.Lib.hid h2
  clear h2
  have n0_0 : w0.cell? ⟨fb, 0, none⟩ = some (.int .u32 x0) := cell_at (H0.out.get (g := fb) (o := .cells #[.int .u32 x0, .int .u32 x1, .int .u32 x2, .int .u32 x3, .int .u32 x4, .int .u32 x5, .int .u32 x6, .int .u32 x7, .int .u32 x8, .int .u32 x9, .int .u32 x10, .int .u32 x11, .int .u32 x12, .int .u32 x13, .int .u32 x14, .int .u32 x15, .int .u64 x16] 25) (by simp)) 0
  have n2_0 : w0.cell? ⟨fb, 2, none⟩ = some (.int .u32 x2) := cell_at (H0.out.get (g := fb) (o := .cells #[.int .u32 x0, .int .u32 x1, .int .u32 x2, .int .u32 x3, .int .u32 x4, .int .u32 x5, .int .u32 x6, .int .u32 x7, .int .u32 x8, .int .u32 x9, .int .u32 x10, .int .u32 x11, .int .u32 x12, .int .u32 x13, .int .u32 x14, .int .u32 x15, .int .u64 x16] 25) (by simp)) 2
  have n3_0 : w0.cell? ⟨fb, 3, none⟩ = some (.int .u32 x3) := cell_at (H0.out.get (g := fb) (o := .cells #[.int .u32 x0, .int .u32 x1, .int .u32 x2, .int .u32 x3, .int .u32 x4, .int .u32 x5, .int .u32 x6, .int .u32 x7, .int .u32 x8, .int .u32 x9, .int .u32 x10, .int .u32 x11, .int .u32 x12, .int .u32 x13, .int .u32 x14, .int .u32 x15, .int .u64 x16] 25) (by simp)) 3
  have n4_0 : w0.cell? ⟨fb, 4, none⟩ = some (.int .u32 x4) := cell_at (H0.out.get (g := fb) (o := .cells #[.int .u32 x0, .int .u32 x1, .int .u32 x2, .int .u32 x3, .int .u32 x4, .int .u32 x5, .int .u32 x6, .int .u32 x7, .int .u32 x8, .int .u32 x9, .int .u32 x10, .int .u32 x11, .int .u32 x12, .int .u32 x13, .int .u32 x14, .int .u32 x15, .int .u64 x16] 25) (by simp)) 4
  have m_0 : w0.cell? ⟨b, 17, none⟩ = some (.int .i64 1) := cell_at (H0.out.get (g := b) (o := St.q ⟨x0, x1, x2, x3, x4, x5, x6, x7, x8, x9, x10, x11, x12, x13, x14, x15, x16, 1, pc⟩) (by simp)) 17
  go_wp2_with (go_at_call 20; refine (rbit_calls x0 HC.out.2 1 (by decide) _).mono ?_; rw [HD.out]; rintro e wq ⟨rfl, rfl⟩)
  refine (first_calls _ (w32_bits (.inl rfl) _ _) _).mono ?_
  rw [HC.out.1]
  rw [HH.out]
  rintro e w1 ⟨rfl, hb⟩
  have k := H0.out.grown hb
  clear hb
  have H1 := _root_.Go.Lib.hid k
  clear k
  clear n0_0 n2_0 n3_0 n4_0 m_0
  clear H0
  have n0_1 : w1.cell? ⟨fb, 0, none⟩ = some (.int .u32 x0) := cell_at (H1.out.get (g := fb) (o := .cells #[.int .u32 x0, .int .u32 x1, .int .u32 x2, .int .u32 x3, .int .u32 x4, .int .u32 x5, .int .u32 x6, .int .u32 x7, .int .u32 x8, .int .u32 x9, .int .u32 x10, .int .u32 x11, .int .u32 x12, .int .u32 x13, .int .u32 x14, .int .u32 x15, .int .u64 x16] 25) (by simp)) 0
  have n2_1 : w1.cell? ⟨fb, 2, none⟩ = some (.int .u32 x2) := cell_at (H1.out.get (g := fb) (o := .cells #[.int .u32 x0, .int .u32 x1, .int .u32 x2, .int .u32 x3, .int .u32 x4, .int .u32 x5, .int .u32 x6, .int .u32 x7, .int .u32 x8, .int .u32 x9, .int .u32 x10, .int .u32 x11, .int .u32 x12, .int .u32 x13, .int .u32 x14, .int .u32 x15, .int .u64 x16] 25) (by simp)) 2
  have n3_1 : w1.cell? ⟨fb, 3, none⟩ = some (.int .u32 x3) := cell_at (H1.out.get (g := fb) (o := .cells #[.int .u32 x0, .int .u32 x1, .int .u32 x2, .int .u32 x3, .int .u32 x4, .int .u32 x5, .int .u32 x6, .int .u32 x7, .int .u32 x8, .int .u32 x9, .int .u32 x10, .int .u32 x11, .int .u32 x12, .int .u32 x13, .int .u32 x14, .int .u32 x15, .int .u64 x16] 25) (by simp)) 3
  have n4_1 : w1.cell? ⟨fb, 4, none⟩ = some (.int .u32 x4) := cell_at (H1.out.get (g := fb) (o := .cells #[.int .u32 x0, .int .u32 x1, .int .u32 x2, .int .u32 x3, .int .u32 x4, .int .u32 x5, .int .u32 x6, .int .u32 x7, .int .u32 x8, .int .u32 x9, .int .u32 x10, .int .u32 x11, .int .u32 x12, .int .u32 x13, .int .u32 x14, .int .u32 x15, .int .u64 x16] 25) (by simp)) 4
  have m_1 : w1.cell? ⟨b, 17, none⟩ = some (.int .i64 1) := cell_at (H1.out.get (g := b) (o := St.q ⟨x0, x1, x2, x3, x4, x5, x6, x7, x8, x9, x10, x11, x12, x13, x14, x15, x16, 1, pc⟩) (by simp)) 17
  go_wp2_with (go_at_call 20; refine (rbit_calls x0 HC.out.2 1 (by decide) _).mono ?_; rw [HD.out]; rintro e wq ⟨rfl, rfl⟩)
  refine bodyPost_ret (results_two Tryd.results13 _ _ _) rfl ⟨?_, by first | exact H1.out.bel | (rw [hbb]; exact H1.out.bel)⟩
  obtain ⟨hs, hn⟩ := HS.out
  rw [hs]
  rfl
set_option maxRecDepth 100000 in
set_option maxHeartbeats 1600000 in
theorem rpend_1th (s : St) (n : Nat) (hp : s.p = 1) (hF : Wf s) (hc : hb s.x0 1 = true) (hh : fInt (bits .andNot .u32 (sAsks s) s.x2) = (n : Int)) (hn : n < 32) (hs : sPend s = (2147483648 + (n : Int), true)) (w : World) : Calls Tryd.prog 13 #[.agg s.r] w fun e w' => e = .returned (.tuple #[.int .u32 (sPend s).1, .bool (sPend s).2]) ∧ Below w.heap.size w w' := by
  obtain ⟨x0, x1, x2, x3, x4, x5, x6, x7, x8, x9, x10, x11, x12, x13, x14, x15, x16, p, pc⟩ := s
  obtain rfl : p = 1 := hp
  have hcm := compl_and (bits .and .u32 x4 x3) x2 hF.h2
  have hx0 : W32 x0 := hF.h0
  clear hF
  have HC := _root_.Go.Lib.hid (And.intro hcm hx0)
  clear hcm hx0
  have HD := _root_.Go.Lib.hid hc
  clear hc
  have hh2 : fInt (bits .andNot .u32 (bits .and .u32 x4 x3) x2) = (n : Int) := hh
  have HH := _root_.Go.Lib.hid hh2
  clear hh hh2
  have HS := _root_.Go.Lib.hid (And.intro hs hn)
  clear hs hn
  have hp1 := (KW.start (Below.refl w.heap.size w) (Nat.le_refl _)).push (St.q ⟨x0, x1, x2, x3, x4, x5, x6, x7, x8, x9, x10, x11, x12, x13, x14, x15, x16, 1, pc⟩)
  have e6 : (w.alloc (St.q ⟨x0, x1, x2, x3, x4, x5, x6, x7, x8, x9, x10, x11, x12, x13, x14, x15, x16, 1, pc⟩)).heap.size = w.heap.size + 1 := by rw [World.size_alloc]
  have hp2 := hp1.push fileY
  rw [e6] at hp2
  clear e6
  have HP := _root_.Go.Lib.hid hp1
  have HQ := _root_.Go.Lib.hid hp2
  clear hp1 hp2
  go_enter Tryd.func13, Tryd.ntmps13
  go_upto_region 2 with (first | ((with_reducible apply Go.Mem.wpList_load_part 25 (vs := #[.int .u32 x0, .int .u32 x1, .int .u32 x2, .int .u32 x3, .int .u32 x4, .int .u32 x5, .int .u32 x6, .int .u32 x7, .int .u32 x8, .int .u32 x9, .int .u32 x10, .int .u32 x11, .int .u32 x12, .int .u32 x13, .int .u32 x14, .int .u32 x15, .int .u64 x16]) Tryd.underlying25); rfl; rfl; (exact HP.out.get (g := w.heap.size) (o := St.q ⟨x0, x1, x2, x3, x4, x5, x6, x7, x8, x9, x10, x11, x12, x13, x14, x15, x16, 1, pc⟩) (by simp)); exact size25; rfl) | ((with_reducible apply wpList_store_at 25); rfl; rfl; (exact HQ.out.get (g := w.heap.size + 1) (o := fileY) (by simp)); exact size25; rfl; rfl; rfl; (have h2 := KW.row (vs := #[.int .u32 x0, .int .u32 x1, .int .u32 x2, .int .u32 x3, .int .u32 x4, .int .u32 x5, .int .u32 x6, .int .u32 x7, .int .u32 x8, .int .u32 x9, .int .u32 x10, .int .u32 x11, .int .u32 x12, .int .u32 x13, .int .u32 x14, .int .u32 x15, .int .u64 x16]) HQ.out); (generalize World.setRow _ (w.heap.size + 1) _ = w0 at h2 ⊢)))
  clear HP HQ
  generalize hbb : w.heap.size = b at h2 ⊢
  generalize hbb2 : b + 1 = fb at h2 ⊢
  have H0 := _root_.Go.Lib.hid h2
  clear h2
  have n0_0 : w0.cell? ⟨fb, 0, none⟩ = some (.int .u32 x0) := cell_at (H0.out.get (g := fb) (o := .cells #[.int .u32 x0, .int .u32 x1, .int .u32 x2, .int .u32 x3, .int .u32 x4, .int .u32 x5, .int .u32 x6, .int .u32 x7, .int .u32 x8, .int .u32 x9, .int .u32 x10, .int .u32 x11, .int .u32 x12, .int .u32 x13, .int .u32 x14, .int .u32 x15, .int .u64 x16] 25) (by simp)) 0
  have n2_0 : w0.cell? ⟨fb, 2, none⟩ = some (.int .u32 x2) := cell_at (H0.out.get (g := fb) (o := .cells #[.int .u32 x0, .int .u32 x1, .int .u32 x2, .int .u32 x3, .int .u32 x4, .int .u32 x5, .int .u32 x6, .int .u32 x7, .int .u32 x8, .int .u32 x9, .int .u32 x10, .int .u32 x11, .int .u32 x12, .int .u32 x13, .int .u32 x14, .int .u32 x15, .int .u64 x16] 25) (by simp)) 2
  have n3_0 : w0.cell? ⟨fb, 3, none⟩ = some (.int .u32 x3) := cell_at (H0.out.get (g := fb) (o := .cells #[.int .u32 x0, .int .u32 x1, .int .u32 x2, .int .u32 x3, .int .u32 x4, .int .u32 x5, .int .u32 x6, .int .u32 x7, .int .u32 x8, .int .u32 x9, .int .u32 x10, .int .u32 x11, .int .u32 x12, .int .u32 x13, .int .u32 x14, .int .u32 x15, .int .u64 x16] 25) (by simp)) 3
  have n4_0 : w0.cell? ⟨fb, 4, none⟩ = some (.int .u32 x4) := cell_at (H0.out.get (g := fb) (o := .cells #[.int .u32 x0, .int .u32 x1, .int .u32 x2, .int .u32 x3, .int .u32 x4, .int .u32 x5, .int .u32 x6, .int .u32 x7, .int .u32 x8, .int .u32 x9, .int .u32 x10, .int .u32 x11, .int .u32 x12, .int .u32 x13, .int .u32 x14, .int .u32 x15, .int .u64 x16] 25) (by simp)) 4
  have m_0 : w0.cell? ⟨b, 17, none⟩ = some (.int .i64 1) := cell_at (H0.out.get (g := b) (o := St.q ⟨x0, x1, x2, x3, x4, x5, x6, x7, x8, x9, x10, x11, x12, x13, x14, x15, x16, 1, pc⟩) (by simp)) 17
  go_wp2_with (go_at_call 20; refine (rbit_calls x0 HC.out.2 1 (by decide) _).mono ?_; rw [HD.out]; rintro e wq ⟨rfl, rfl⟩)
  refine (first_calls _ (w32_bits (.inl rfl) _ _) _).mono ?_
  rw [HC.out.1]
  rw [HH.out]
  rintro e w1 ⟨rfl, hb⟩
  have k := H0.out.grown hb
  clear hb
  have H1 := _root_.Go.Lib.hid k
  clear k
  clear n0_0 n2_0 n3_0 n4_0 m_0
  clear H0
  have n0_1 : w1.cell? ⟨fb, 0, none⟩ = some (.int .u32 x0) := cell_at (H1.out.get (g := fb) (o := .cells #[.int .u32 x0, .int .u32 x1, .int .u32 x2, .int .u32 x3, .int .u32 x4, .int .u32 x5, .int .u32 x6, .int .u32 x7, .int .u32 x8, .int .u32 x9, .int .u32 x10, .int .u32 x11, .int .u32 x12, .int .u32 x13, .int .u32 x14, .int .u32 x15, .int .u64 x16] 25) (by simp)) 0
  have n2_1 : w1.cell? ⟨fb, 2, none⟩ = some (.int .u32 x2) := cell_at (H1.out.get (g := fb) (o := .cells #[.int .u32 x0, .int .u32 x1, .int .u32 x2, .int .u32 x3, .int .u32 x4, .int .u32 x5, .int .u32 x6, .int .u32 x7, .int .u32 x8, .int .u32 x9, .int .u32 x10, .int .u32 x11, .int .u32 x12, .int .u32 x13, .int .u32 x14, .int .u32 x15, .int .u64 x16] 25) (by simp)) 2
  have n3_1 : w1.cell? ⟨fb, 3, none⟩ = some (.int .u32 x3) := cell_at (H1.out.get (g := fb) (o := .cells #[.int .u32 x0, .int .u32 x1, .int .u32 x2, .int .u32 x3, .int .u32 x4, .int .u32 x5, .int .u32 x6, .int .u32 x7, .int .u32 x8, .int .u32 x9, .int .u32 x10, .int .u32 x11, .int .u32 x12, .int .u32 x13, .int .u32 x14, .int .u32 x15, .int .u64 x16] 25) (by simp)) 3
  have n4_1 : w1.cell? ⟨fb, 4, none⟩ = some (.int .u32 x4) := cell_at (H1.out.get (g := fb) (o := .cells #[.int .u32 x0, .int .u32 x1, .int .u32 x2, .int .u32 x3, .int .u32 x4, .int .u32 x5, .int .u32 x6, .int .u32 x7, .int .u32 x8, .int .u32 x9, .int .u32 x10, .int .u32 x11, .int .u32 x12, .int .u32 x13, .int .u32 x14, .int .u32 x15, .int .u64 x16] 25) (by simp)) 4
  have m_1 : w1.cell? ⟨b, 17, none⟩ = some (.int .i64 1) := cell_at (H1.out.get (g := b) (o := St.q ⟨x0, x1, x2, x3, x4, x5, x6, x7, x8, x9, x10, x11, x12, x13, x14, x15, x16, 1, pc⟩) (by simp)) 17
  have gn : ((n : Int) ≥ 0) = True := eq_true (by omega)
  have gn2 : (0 ≤ (n : Int)) = True := eq_true (by omega)
  go_wp2_with (go_at_call 20; refine (rbit_calls x0 HC.out.2 1 (by decide) _).mono ?_; rw [HD.out]; rintro e wq ⟨rfl, rfl⟩)
  refine bodyPost_ret (results_two Tryd.results13 _ _ _) rfl ⟨?_, by first | exact H1.out.bel | (rw [hbb]; exact H1.out.bel)⟩
  obtain ⟨hs, hn⟩ := HS.out
  rw [hs]
  have e : ((2147483648 + (n : Int) % 4294967296) % 4294967296) = 2147483648 + (n : Int) := by omega
  first | rfl | exact congrArg (fun z => Ending.returned (.tuple #[.int .u32 z, .bool true])) e | (trace_state; exact congrArg (fun z => Ending.returned (.tuple #[.int .u32 z, .bool true])) (by omega))
set_option maxRecDepth 100000 in
set_option maxHeartbeats 1600000 in
theorem rpend_1tl (s : St) (n : Nat) (hp : s.p = 1) (hF : Wf s) (hc : hb s.x0 1 = true) (hh : fInt (bits .andNot .u32 (sAsks s) s.x2) = -1) (hl : fInt (bits .and .u32 (sAsks s) s.x2) = (n : Int)) (hn : n < 32) (hs : sPend s = (2147483648 + (n : Int), true)) (w : World) : Calls Tryd.prog 13 #[.agg s.r] w fun e w' => e = .returned (.tuple #[.int .u32 (sPend s).1, .bool (sPend s).2]) ∧ Below w.heap.size w w' := by
  obtain ⟨x0, x1, x2, x3, x4, x5, x6, x7, x8, x9, x10, x11, x12, x13, x14, x15, x16, p, pc⟩ := s
  obtain rfl : p = 1 := hp
  have hcm := compl_and (bits .and .u32 x4 x3) x2 hF.h2
  have hx0 : W32 x0 := hF.h0
  clear hF
  have HC := _root_.Go.Lib.hid (And.intro hcm hx0)
  clear hcm hx0
  have HD := _root_.Go.Lib.hid hc
  clear hc
  have hh2 : fInt (bits .andNot .u32 (bits .and .u32 x4 x3) x2) = -1 := hh
  have HH := _root_.Go.Lib.hid hh2
  clear hh hh2
  have hl2 : fInt (bits .and .u32 (bits .and .u32 x4 x3) x2) = (n : Int) := hl
  have HL := _root_.Go.Lib.hid hl2
  clear hl hl2
  have HS := _root_.Go.Lib.hid (And.intro hs hn)
  clear hs hn
  have hp1 := (KW.start (Below.refl w.heap.size w) (Nat.le_refl _)).push (St.q ⟨x0, x1, x2, x3, x4, x5, x6, x7, x8, x9, x10, x11, x12, x13, x14, x15, x16, 1, pc⟩)
  have e6 : (w.alloc (St.q ⟨x0, x1, x2, x3, x4, x5, x6, x7, x8, x9, x10, x11, x12, x13, x14, x15, x16, 1, pc⟩)).heap.size = w.heap.size + 1 := by rw [World.size_alloc]
  have hp2 := hp1.push fileY
  rw [e6] at hp2
  clear e6
  have HP := _root_.Go.Lib.hid hp1
  have HQ := _root_.Go.Lib.hid hp2
  clear hp1 hp2
  go_enter Tryd.func13, Tryd.ntmps13
  go_upto_region 2 with (first | ((with_reducible apply Go.Mem.wpList_load_part 25 (vs := #[.int .u32 x0, .int .u32 x1, .int .u32 x2, .int .u32 x3, .int .u32 x4, .int .u32 x5, .int .u32 x6, .int .u32 x7, .int .u32 x8, .int .u32 x9, .int .u32 x10, .int .u32 x11, .int .u32 x12, .int .u32 x13, .int .u32 x14, .int .u32 x15, .int .u64 x16]) Tryd.underlying25); rfl; rfl; (exact HP.out.get (g := w.heap.size) (o := St.q ⟨x0, x1, x2, x3, x4, x5, x6, x7, x8, x9, x10, x11, x12, x13, x14, x15, x16, 1, pc⟩) (by simp)); exact size25; rfl) | ((with_reducible apply wpList_store_at 25); rfl; rfl; (exact HQ.out.get (g := w.heap.size + 1) (o := fileY) (by simp)); exact size25; rfl; rfl; rfl; (have h2 := KW.row (vs := #[.int .u32 x0, .int .u32 x1, .int .u32 x2, .int .u32 x3, .int .u32 x4, .int .u32 x5, .int .u32 x6, .int .u32 x7, .int .u32 x8, .int .u32 x9, .int .u32 x10, .int .u32 x11, .int .u32 x12, .int .u32 x13, .int .u32 x14, .int .u32 x15, .int .u64 x16]) HQ.out); (generalize World.setRow _ (w.heap.size + 1) _ = w0 at h2 ⊢)))
  clear HP HQ
  generalize hbb : w.heap.size = b at h2 ⊢
  generalize hbb2 : b + 1 = fb at h2 ⊢
  have H0 := _root_.Go.Lib.hid h2
  clear h2
  have n0_0 : w0.cell? ⟨fb, 0, none⟩ = some (.int .u32 x0) := cell_at (H0.out.get (g := fb) (o := .cells #[.int .u32 x0, .int .u32 x1, .int .u32 x2, .int .u32 x3, .int .u32 x4, .int .u32 x5, .int .u32 x6, .int .u32 x7, .int .u32 x8, .int .u32 x9, .int .u32 x10, .int .u32 x11, .int .u32 x12, .int .u32 x13, .int .u32 x14, .int .u32 x15, .int .u64 x16] 25) (by simp)) 0
  have n2_0 : w0.cell? ⟨fb, 2, none⟩ = some (.int .u32 x2) := cell_at (H0.out.get (g := fb) (o := .cells #[.int .u32 x0, .int .u32 x1, .int .u32 x2, .int .u32 x3, .int .u32 x4, .int .u32 x5, .int .u32 x6, .int .u32 x7, .int .u32 x8, .int .u32 x9, .int .u32 x10, .int .u32 x11, .int .u32 x12, .int .u32 x13, .int .u32 x14, .int .u32 x15, .int .u64 x16] 25) (by simp)) 2
  have n3_0 : w0.cell? ⟨fb, 3, none⟩ = some (.int .u32 x3) := cell_at (H0.out.get (g := fb) (o := .cells #[.int .u32 x0, .int .u32 x1, .int .u32 x2, .int .u32 x3, .int .u32 x4, .int .u32 x5, .int .u32 x6, .int .u32 x7, .int .u32 x8, .int .u32 x9, .int .u32 x10, .int .u32 x11, .int .u32 x12, .int .u32 x13, .int .u32 x14, .int .u32 x15, .int .u64 x16] 25) (by simp)) 3
  have n4_0 : w0.cell? ⟨fb, 4, none⟩ = some (.int .u32 x4) := cell_at (H0.out.get (g := fb) (o := .cells #[.int .u32 x0, .int .u32 x1, .int .u32 x2, .int .u32 x3, .int .u32 x4, .int .u32 x5, .int .u32 x6, .int .u32 x7, .int .u32 x8, .int .u32 x9, .int .u32 x10, .int .u32 x11, .int .u32 x12, .int .u32 x13, .int .u32 x14, .int .u32 x15, .int .u64 x16] 25) (by simp)) 4
  have m_0 : w0.cell? ⟨b, 17, none⟩ = some (.int .i64 1) := cell_at (H0.out.get (g := b) (o := St.q ⟨x0, x1, x2, x3, x4, x5, x6, x7, x8, x9, x10, x11, x12, x13, x14, x15, x16, 1, pc⟩) (by simp)) 17
  go_wp2_with (go_at_call 20; refine (rbit_calls x0 HC.out.2 1 (by decide) _).mono ?_; rw [HD.out]; rintro e wq ⟨rfl, rfl⟩)
  refine (first_calls _ (w32_bits (.inl rfl) _ _) _).mono ?_
  rw [HC.out.1]
  rw [HH.out]
  rintro e w1 ⟨rfl, hb⟩
  have k := H0.out.grown hb
  clear hb
  have H1 := _root_.Go.Lib.hid k
  clear k
  clear n0_0 n2_0 n3_0 n4_0 m_0
  clear H0
  have n0_1 : w1.cell? ⟨fb, 0, none⟩ = some (.int .u32 x0) := cell_at (H1.out.get (g := fb) (o := .cells #[.int .u32 x0, .int .u32 x1, .int .u32 x2, .int .u32 x3, .int .u32 x4, .int .u32 x5, .int .u32 x6, .int .u32 x7, .int .u32 x8, .int .u32 x9, .int .u32 x10, .int .u32 x11, .int .u32 x12, .int .u32 x13, .int .u32 x14, .int .u32 x15, .int .u64 x16] 25) (by simp)) 0
  have n2_1 : w1.cell? ⟨fb, 2, none⟩ = some (.int .u32 x2) := cell_at (H1.out.get (g := fb) (o := .cells #[.int .u32 x0, .int .u32 x1, .int .u32 x2, .int .u32 x3, .int .u32 x4, .int .u32 x5, .int .u32 x6, .int .u32 x7, .int .u32 x8, .int .u32 x9, .int .u32 x10, .int .u32 x11, .int .u32 x12, .int .u32 x13, .int .u32 x14, .int .u32 x15, .int .u64 x16] 25) (by simp)) 2
  have n3_1 : w1.cell? ⟨fb, 3, none⟩ = some (.int .u32 x3) := cell_at (H1.out.get (g := fb) (o := .cells #[.int .u32 x0, .int .u32 x1, .int .u32 x2, .int .u32 x3, .int .u32 x4, .int .u32 x5, .int .u32 x6, .int .u32 x7, .int .u32 x8, .int .u32 x9, .int .u32 x10, .int .u32 x11, .int .u32 x12, .int .u32 x13, .int .u32 x14, .int .u32 x15, .int .u64 x16] 25) (by simp)) 3
  have n4_1 : w1.cell? ⟨fb, 4, none⟩ = some (.int .u32 x4) := cell_at (H1.out.get (g := fb) (o := .cells #[.int .u32 x0, .int .u32 x1, .int .u32 x2, .int .u32 x3, .int .u32 x4, .int .u32 x5, .int .u32 x6, .int .u32 x7, .int .u32 x8, .int .u32 x9, .int .u32 x10, .int .u32 x11, .int .u32 x12, .int .u32 x13, .int .u32 x14, .int .u32 x15, .int .u64 x16] 25) (by simp)) 4
  have m_1 : w1.cell? ⟨b, 17, none⟩ = some (.int .i64 1) := cell_at (H1.out.get (g := b) (o := St.q ⟨x0, x1, x2, x3, x4, x5, x6, x7, x8, x9, x10, x11, x12, x13, x14, x15, x16, 1, pc⟩) (by simp)) 17
  go_wp2_with (go_at_call 20; refine (rbit_calls x0 HC.out.2 1 (by decide) _).mono ?_; rw [HD.out]; rintro e wq ⟨rfl, rfl⟩)
  refine (first_calls _ (w32_bits (.inl rfl) _ _) _).mono ?_
  rw [HL.out]
  rintro e w2 ⟨rfl, hb⟩
  have k := H1.out.grown hb
  clear hb
  have H2 := _root_.Go.Lib.hid k
  clear k
  clear n0_1 n2_1 n3_1 n4_1 m_1
  clear H1
  have n0_2 : w2.cell? ⟨fb, 0, none⟩ = some (.int .u32 x0) := cell_at (H2.out.get (g := fb) (o := .cells #[.int .u32 x0, .int .u32 x1, .int .u32 x2, .int .u32 x3, .int .u32 x4, .int .u32 x5, .int .u32 x6, .int .u32 x7, .int .u32 x8, .int .u32 x9, .int .u32 x10, .int .u32 x11, .int .u32 x12, .int .u32 x13, .int .u32 x14, .int .u32 x15, .int .u64 x16] 25) (by simp)) 0
  have n2_2 : w2.cell? ⟨fb, 2, none⟩ = some (.int .u32 x2) := cell_at (H2.out.get (g := fb) (o := .cells #[.int .u32 x0, .int .u32 x1, .int .u32 x2, .int .u32 x3, .int .u32 x4, .int .u32 x5, .int .u32 x6, .int .u32 x7, .int .u32 x8, .int .u32 x9, .int .u32 x10, .int .u32 x11, .int .u32 x12, .int .u32 x13, .int .u32 x14, .int .u32 x15, .int .u64 x16] 25) (by simp)) 2
  have n3_2 : w2.cell? ⟨fb, 3, none⟩ = some (.int .u32 x3) := cell_at (H2.out.get (g := fb) (o := .cells #[.int .u32 x0, .int .u32 x1, .int .u32 x2, .int .u32 x3, .int .u32 x4, .int .u32 x5, .int .u32 x6, .int .u32 x7, .int .u32 x8, .int .u32 x9, .int .u32 x10, .int .u32 x11, .int .u32 x12, .int .u32 x13, .int .u32 x14, .int .u32 x15, .int .u64 x16] 25) (by simp)) 3
  have n4_2 : w2.cell? ⟨fb, 4, none⟩ = some (.int .u32 x4) := cell_at (H2.out.get (g := fb) (o := .cells #[.int .u32 x0, .int .u32 x1, .int .u32 x2, .int .u32 x3, .int .u32 x4, .int .u32 x5, .int .u32 x6, .int .u32 x7, .int .u32 x8, .int .u32 x9, .int .u32 x10, .int .u32 x11, .int .u32 x12, .int .u32 x13, .int .u32 x14, .int .u32 x15, .int .u64 x16] 25) (by simp)) 4
  have m_2 : w2.cell? ⟨b, 17, none⟩ = some (.int .i64 1) := cell_at (H2.out.get (g := b) (o := St.q ⟨x0, x1, x2, x3, x4, x5, x6, x7, x8, x9, x10, x11, x12, x13, x14, x15, x16, 1, pc⟩) (by simp)) 17
  have gn : ((n : Int) ≥ 0) = True := eq_true (by omega)
  have gn2 : (0 ≤ (n : Int)) = True := eq_true (by omega)
  go_wp2_with (go_at_call 20; refine (rbit_calls x0 HC.out.2 1 (by decide) _).mono ?_; rw [HD.out]; rintro e wq ⟨rfl, rfl⟩)
  refine bodyPost_ret (results_two Tryd.results13 _ _ _) rfl ⟨?_, by first | exact H2.out.bel | (rw [hbb]; exact H2.out.bel)⟩
  obtain ⟨hs, hn⟩ := HS.out
  rw [hs]
  have e : ((2147483648 + (n : Int) % 4294967296) % 4294967296) = 2147483648 + (n : Int) := by omega
  first | rfl | exact congrArg (fun z => Ending.returned (.tuple #[.int .u32 z, .bool true])) e | (trace_state; exact congrArg (fun z => Ending.returned (.tuple #[.int .u32 z, .bool true])) (by omega))
set_option maxRecDepth 100000 in
set_option maxHeartbeats 1600000 in
theorem rpend_1tn (s : St) (n : Nat) (hp : s.p = 1) (hF : Wf s) (hc : hb s.x0 1 = true) (hh : fInt (bits .andNot .u32 (sAsks s) s.x2) = -1) (hl : fInt (bits .and .u32 (sAsks s) s.x2) = -1) (hn : n < 32) (hs : sPend s = (0, false)) (w : World) : Calls Tryd.prog 13 #[.agg s.r] w fun e w' => e = .returned (.tuple #[.int .u32 (sPend s).1, .bool (sPend s).2]) ∧ Below w.heap.size w w' := by
  obtain ⟨x0, x1, x2, x3, x4, x5, x6, x7, x8, x9, x10, x11, x12, x13, x14, x15, x16, p, pc⟩ := s
  obtain rfl : p = 1 := hp
  have hcm := compl_and (bits .and .u32 x4 x3) x2 hF.h2
  have hx0 : W32 x0 := hF.h0
  clear hF
  have HC := _root_.Go.Lib.hid (And.intro hcm hx0)
  clear hcm hx0
  have HD := _root_.Go.Lib.hid hc
  clear hc
  have hh2 : fInt (bits .andNot .u32 (bits .and .u32 x4 x3) x2) = -1 := hh
  have HH := _root_.Go.Lib.hid hh2
  clear hh hh2
  have hl2 : fInt (bits .and .u32 (bits .and .u32 x4 x3) x2) = -1 := hl
  have HL := _root_.Go.Lib.hid hl2
  clear hl hl2
  have HS := _root_.Go.Lib.hid (And.intro hs hn)
  clear hs hn
  have hp1 := (KW.start (Below.refl w.heap.size w) (Nat.le_refl _)).push (St.q ⟨x0, x1, x2, x3, x4, x5, x6, x7, x8, x9, x10, x11, x12, x13, x14, x15, x16, 1, pc⟩)
  have e6 : (w.alloc (St.q ⟨x0, x1, x2, x3, x4, x5, x6, x7, x8, x9, x10, x11, x12, x13, x14, x15, x16, 1, pc⟩)).heap.size = w.heap.size + 1 := by rw [World.size_alloc]
  have hp2 := hp1.push fileY
  rw [e6] at hp2
  clear e6
  have HP := _root_.Go.Lib.hid hp1
  have HQ := _root_.Go.Lib.hid hp2
  clear hp1 hp2
  go_enter Tryd.func13, Tryd.ntmps13
  go_upto_region 2 with (first | ((with_reducible apply Go.Mem.wpList_load_part 25 (vs := #[.int .u32 x0, .int .u32 x1, .int .u32 x2, .int .u32 x3, .int .u32 x4, .int .u32 x5, .int .u32 x6, .int .u32 x7, .int .u32 x8, .int .u32 x9, .int .u32 x10, .int .u32 x11, .int .u32 x12, .int .u32 x13, .int .u32 x14, .int .u32 x15, .int .u64 x16]) Tryd.underlying25); rfl; rfl; (exact HP.out.get (g := w.heap.size) (o := St.q ⟨x0, x1, x2, x3, x4, x5, x6, x7, x8, x9, x10, x11, x12, x13, x14, x15, x16, 1, pc⟩) (by simp)); exact size25; rfl) | ((with_reducible apply wpList_store_at 25); rfl; rfl; (exact HQ.out.get (g := w.heap.size + 1) (o := fileY) (by simp)); exact size25; rfl; rfl; rfl; (have h2 := KW.row (vs := #[.int .u32 x0, .int .u32 x1, .int .u32 x2, .int .u32 x3, .int .u32 x4, .int .u32 x5, .int .u32 x6, .int .u32 x7, .int .u32 x8, .int .u32 x9, .int .u32 x10, .int .u32 x11, .int .u32 x12, .int .u32 x13, .int .u32 x14, .int .u32 x15, .int .u64 x16]) HQ.out); (generalize World.setRow _ (w.heap.size + 1) _ = w0 at h2 ⊢)))
  clear HP HQ
  generalize hbb : w.heap.size = b at h2 ⊢
  generalize hbb2 : b + 1 = fb at h2 ⊢
  have H0 := _root_.Go.Lib.hid h2
  clear h2
  have n0_0 : w0.cell? ⟨fb, 0, none⟩ = some (.int .u32 x0) := cell_at (H0.out.get (g := fb) (o := .cells #[.int .u32 x0, .int .u32 x1, .int .u32 x2, .int .u32 x3, .int .u32 x4, .int .u32 x5, .int .u32 x6, .int .u32 x7, .int .u32 x8, .int .u32 x9, .int .u32 x10, .int .u32 x11, .int .u32 x12, .int .u32 x13, .int .u32 x14, .int .u32 x15, .int .u64 x16] 25) (by simp)) 0
  have n2_0 : w0.cell? ⟨fb, 2, none⟩ = some (.int .u32 x2) := cell_at (H0.out.get (g := fb) (o := .cells #[.int .u32 x0, .int .u32 x1, .int .u32 x2, .int .u32 x3, .int .u32 x4, .int .u32 x5, .int .u32 x6, .int .u32 x7, .int .u32 x8, .int .u32 x9, .int .u32 x10, .int .u32 x11, .int .u32 x12, .int .u32 x13, .int .u32 x14, .int .u32 x15, .int .u64 x16] 25) (by simp)) 2
  have n3_0 : w0.cell? ⟨fb, 3, none⟩ = some (.int .u32 x3) := cell_at (H0.out.get (g := fb) (o := .cells #[.int .u32 x0, .int .u32 x1, .int .u32 x2, .int .u32 x3, .int .u32 x4, .int .u32 x5, .int .u32 x6, .int .u32 x7, .int .u32 x8, .int .u32 x9, .int .u32 x10, .int .u32 x11, .int .u32 x12, .int .u32 x13, .int .u32 x14, .int .u32 x15, .int .u64 x16] 25) (by simp)) 3
  have n4_0 : w0.cell? ⟨fb, 4, none⟩ = some (.int .u32 x4) := cell_at (H0.out.get (g := fb) (o := .cells #[.int .u32 x0, .int .u32 x1, .int .u32 x2, .int .u32 x3, .int .u32 x4, .int .u32 x5, .int .u32 x6, .int .u32 x7, .int .u32 x8, .int .u32 x9, .int .u32 x10, .int .u32 x11, .int .u32 x12, .int .u32 x13, .int .u32 x14, .int .u32 x15, .int .u64 x16] 25) (by simp)) 4
  have m_0 : w0.cell? ⟨b, 17, none⟩ = some (.int .i64 1) := cell_at (H0.out.get (g := b) (o := St.q ⟨x0, x1, x2, x3, x4, x5, x6, x7, x8, x9, x10, x11, x12, x13, x14, x15, x16, 1, pc⟩) (by simp)) 17
  go_wp2_with (go_at_call 20; refine (rbit_calls x0 HC.out.2 1 (by decide) _).mono ?_; rw [HD.out]; rintro e wq ⟨rfl, rfl⟩)
  refine (first_calls _ (w32_bits (.inl rfl) _ _) _).mono ?_
  rw [HC.out.1]
  rw [HH.out]
  rintro e w1 ⟨rfl, hb⟩
  have k := H0.out.grown hb
  clear hb
  have H1 := _root_.Go.Lib.hid k
  clear k
  clear n0_0 n2_0 n3_0 n4_0 m_0
  clear H0
  have n0_1 : w1.cell? ⟨fb, 0, none⟩ = some (.int .u32 x0) := cell_at (H1.out.get (g := fb) (o := .cells #[.int .u32 x0, .int .u32 x1, .int .u32 x2, .int .u32 x3, .int .u32 x4, .int .u32 x5, .int .u32 x6, .int .u32 x7, .int .u32 x8, .int .u32 x9, .int .u32 x10, .int .u32 x11, .int .u32 x12, .int .u32 x13, .int .u32 x14, .int .u32 x15, .int .u64 x16] 25) (by simp)) 0
  have n2_1 : w1.cell? ⟨fb, 2, none⟩ = some (.int .u32 x2) := cell_at (H1.out.get (g := fb) (o := .cells #[.int .u32 x0, .int .u32 x1, .int .u32 x2, .int .u32 x3, .int .u32 x4, .int .u32 x5, .int .u32 x6, .int .u32 x7, .int .u32 x8, .int .u32 x9, .int .u32 x10, .int .u32 x11, .int .u32 x12, .int .u32 x13, .int .u32 x14, .int .u32 x15, .int .u64 x16] 25) (by simp)) 2
  have n3_1 : w1.cell? ⟨fb, 3, none⟩ = some (.int .u32 x3) := cell_at (H1.out.get (g := fb) (o := .cells #[.int .u32 x0, .int .u32 x1, .int .u32 x2, .int .u32 x3, .int .u32 x4, .int .u32 x5, .int .u32 x6, .int .u32 x7, .int .u32 x8, .int .u32 x9, .int .u32 x10, .int .u32 x11, .int .u32 x12, .int .u32 x13, .int .u32 x14, .int .u32 x15, .int .u64 x16] 25) (by simp)) 3
  have n4_1 : w1.cell? ⟨fb, 4, none⟩ = some (.int .u32 x4) := cell_at (H1.out.get (g := fb) (o := .cells #[.int .u32 x0, .int .u32 x1, .int .u32 x2, .int .u32 x3, .int .u32 x4, .int .u32 x5, .int .u32 x6, .int .u32 x7, .int .u32 x8, .int .u32 x9, .int .u32 x10, .int .u32 x11, .int .u32 x12, .int .u32 x13, .int .u32 x14, .int .u32 x15, .int .u64 x16] 25) (by simp)) 4
  have m_1 : w1.cell? ⟨b, 17, none⟩ = some (.int .i64 1) := cell_at (H1.out.get (g := b) (o := St.q ⟨x0, x1, x2, x3, x4, x5, x6, x7, x8, x9, x10, x11, x12, x13, x14, x15, x16, 1, pc⟩) (by simp)) 17
  go_wp2_with (go_at_call 20; refine (rbit_calls x0 HC.out.2 1 (by decide) _).mono ?_; rw [HD.out]; rintro e wq ⟨rfl, rfl⟩)
  refine (first_calls _ (w32_bits (.inl rfl) _ _) _).mono ?_
  rw [HL.out]
  rintro e w2 ⟨rfl, hb⟩
  have k := H1.out.grown hb
  clear hb
  have H2 := _root_.Go.Lib.hid k
  clear k
  clear n0_1 n2_1 n3_1 n4_1 m_1
  clear H1
  have n0_2 : w2.cell? ⟨fb, 0, none⟩ = some (.int .u32 x0) := cell_at (H2.out.get (g := fb) (o := .cells #[.int .u32 x0, .int .u32 x1, .int .u32 x2, .int .u32 x3, .int .u32 x4, .int .u32 x5, .int .u32 x6, .int .u32 x7, .int .u32 x8, .int .u32 x9, .int .u32 x10, .int .u32 x11, .int .u32 x12, .int .u32 x13, .int .u32 x14, .int .u32 x15, .int .u64 x16] 25) (by simp)) 0
  have n2_2 : w2.cell? ⟨fb, 2, none⟩ = some (.int .u32 x2) := cell_at (H2.out.get (g := fb) (o := .cells #[.int .u32 x0, .int .u32 x1, .int .u32 x2, .int .u32 x3, .int .u32 x4, .int .u32 x5, .int .u32 x6, .int .u32 x7, .int .u32 x8, .int .u32 x9, .int .u32 x10, .int .u32 x11, .int .u32 x12, .int .u32 x13, .int .u32 x14, .int .u32 x15, .int .u64 x16] 25) (by simp)) 2
  have n3_2 : w2.cell? ⟨fb, 3, none⟩ = some (.int .u32 x3) := cell_at (H2.out.get (g := fb) (o := .cells #[.int .u32 x0, .int .u32 x1, .int .u32 x2, .int .u32 x3, .int .u32 x4, .int .u32 x5, .int .u32 x6, .int .u32 x7, .int .u32 x8, .int .u32 x9, .int .u32 x10, .int .u32 x11, .int .u32 x12, .int .u32 x13, .int .u32 x14, .int .u32 x15, .int .u64 x16] 25) (by simp)) 3
  have n4_2 : w2.cell? ⟨fb, 4, none⟩ = some (.int .u32 x4) := cell_at (H2.out.get (g := fb) (o := .cells #[.int .u32 x0, .int .u32 x1, .int .u32 x2, .int .u32 x3, .int .u32 x4, .int .u32 x5, .int .u32 x6, .int .u32 x7, .int .u32 x8, .int .u32 x9, .int .u32 x10, .int .u32 x11, .int .u32 x12, .int .u32 x13, .int .u32 x14, .int .u32 x15, .int .u64 x16] 25) (by simp)) 4
  have m_2 : w2.cell? ⟨b, 17, none⟩ = some (.int .i64 1) := cell_at (H2.out.get (g := b) (o := St.q ⟨x0, x1, x2, x3, x4, x5, x6, x7, x8, x9, x10, x11, x12, x13, x14, x15, x16, 1, pc⟩) (by simp)) 17
  go_wp2_with (go_at_call 20; refine (rbit_calls x0 HC.out.2 1 (by decide) _).mono ?_; rw [HD.out]; rintro e wq ⟨rfl, rfl⟩)
  refine bodyPost_ret (results_two Tryd.results13 _ _ _) rfl ⟨?_, by first | exact H2.out.bel | (rw [hbb]; exact H2.out.bel)⟩
  obtain ⟨hs, hn⟩ := HS.out
  rw [hs]
  rfl
set_option maxRecDepth 100000 in
set_option maxHeartbeats 1600000 in
theorem rpend_3f (s : St) (n : Nat) (hp : s.p = 3) (hF : Wf s) (hc : hb s.x0 3 = false) (hn : n < 32) (hs : sPend s = (0, false)) (w : World) : Calls Tryd.prog 13 #[.agg s.r] w fun e w' => e = .returned (.tuple #[.int .u32 (sPend s).1, .bool (sPend s).2]) ∧ Below w.heap.size w w' := by
  obtain ⟨x0, x1, x2, x3, x4, x5, x6, x7, x8, x9, x10, x11, x12, x13, x14, x15, x16, p, pc⟩ := s
  obtain rfl : p = 3 := hp
  have hcm := compl_and (bits .and .u32 x4 x3) x2 hF.h2
  have hx0 : W32 x0 := hF.h0
  clear hF
  have HC := _root_.Go.Lib.hid (And.intro hcm hx0)
  clear hcm hx0
  have HD := _root_.Go.Lib.hid hc
  clear hc
  have HS := _root_.Go.Lib.hid (And.intro hs hn)
  clear hs hn
  have hp1 := (KW.start (Below.refl w.heap.size w) (Nat.le_refl _)).push (St.q ⟨x0, x1, x2, x3, x4, x5, x6, x7, x8, x9, x10, x11, x12, x13, x14, x15, x16, 3, pc⟩)
  have e6 : (w.alloc (St.q ⟨x0, x1, x2, x3, x4, x5, x6, x7, x8, x9, x10, x11, x12, x13, x14, x15, x16, 3, pc⟩)).heap.size = w.heap.size + 1 := by rw [World.size_alloc]
  have hp2 := hp1.push fileY
  rw [e6] at hp2
  clear e6
  have HP := _root_.Go.Lib.hid hp1
  have HQ := _root_.Go.Lib.hid hp2
  clear hp1 hp2
  go_enter Tryd.func13, Tryd.ntmps13
  go_upto_region 2 with (first | ((with_reducible apply Go.Mem.wpList_load_part 25 (vs := #[.int .u32 x0, .int .u32 x1, .int .u32 x2, .int .u32 x3, .int .u32 x4, .int .u32 x5, .int .u32 x6, .int .u32 x7, .int .u32 x8, .int .u32 x9, .int .u32 x10, .int .u32 x11, .int .u32 x12, .int .u32 x13, .int .u32 x14, .int .u32 x15, .int .u64 x16]) Tryd.underlying25); rfl; rfl; (exact HP.out.get (g := w.heap.size) (o := St.q ⟨x0, x1, x2, x3, x4, x5, x6, x7, x8, x9, x10, x11, x12, x13, x14, x15, x16, 3, pc⟩) (by simp)); exact size25; rfl) | ((with_reducible apply wpList_store_at 25); rfl; rfl; (exact HQ.out.get (g := w.heap.size + 1) (o := fileY) (by simp)); exact size25; rfl; rfl; rfl; (have h2 := KW.row (vs := #[.int .u32 x0, .int .u32 x1, .int .u32 x2, .int .u32 x3, .int .u32 x4, .int .u32 x5, .int .u32 x6, .int .u32 x7, .int .u32 x8, .int .u32 x9, .int .u32 x10, .int .u32 x11, .int .u32 x12, .int .u32 x13, .int .u32 x14, .int .u32 x15, .int .u64 x16]) HQ.out); (generalize World.setRow _ (w.heap.size + 1) _ = w0 at h2 ⊢)))
  clear HP HQ
  generalize hbb : w.heap.size = b at h2 ⊢
  generalize hbb2 : b + 1 = fb at h2 ⊢
  have H0 := _root_.Go.Lib.hid h2
  clear h2
  have n0_0 : w0.cell? ⟨fb, 0, none⟩ = some (.int .u32 x0) := cell_at (H0.out.get (g := fb) (o := .cells #[.int .u32 x0, .int .u32 x1, .int .u32 x2, .int .u32 x3, .int .u32 x4, .int .u32 x5, .int .u32 x6, .int .u32 x7, .int .u32 x8, .int .u32 x9, .int .u32 x10, .int .u32 x11, .int .u32 x12, .int .u32 x13, .int .u32 x14, .int .u32 x15, .int .u64 x16] 25) (by simp)) 0
  have n2_0 : w0.cell? ⟨fb, 2, none⟩ = some (.int .u32 x2) := cell_at (H0.out.get (g := fb) (o := .cells #[.int .u32 x0, .int .u32 x1, .int .u32 x2, .int .u32 x3, .int .u32 x4, .int .u32 x5, .int .u32 x6, .int .u32 x7, .int .u32 x8, .int .u32 x9, .int .u32 x10, .int .u32 x11, .int .u32 x12, .int .u32 x13, .int .u32 x14, .int .u32 x15, .int .u64 x16] 25) (by simp)) 2
  have n3_0 : w0.cell? ⟨fb, 3, none⟩ = some (.int .u32 x3) := cell_at (H0.out.get (g := fb) (o := .cells #[.int .u32 x0, .int .u32 x1, .int .u32 x2, .int .u32 x3, .int .u32 x4, .int .u32 x5, .int .u32 x6, .int .u32 x7, .int .u32 x8, .int .u32 x9, .int .u32 x10, .int .u32 x11, .int .u32 x12, .int .u32 x13, .int .u32 x14, .int .u32 x15, .int .u64 x16] 25) (by simp)) 3
  have n4_0 : w0.cell? ⟨fb, 4, none⟩ = some (.int .u32 x4) := cell_at (H0.out.get (g := fb) (o := .cells #[.int .u32 x0, .int .u32 x1, .int .u32 x2, .int .u32 x3, .int .u32 x4, .int .u32 x5, .int .u32 x6, .int .u32 x7, .int .u32 x8, .int .u32 x9, .int .u32 x10, .int .u32 x11, .int .u32 x12, .int .u32 x13, .int .u32 x14, .int .u32 x15, .int .u64 x16] 25) (by simp)) 4
  have m_0 : w0.cell? ⟨b, 17, none⟩ = some (.int .i64 3) := cell_at (H0.out.get (g := b) (o := St.q ⟨x0, x1, x2, x3, x4, x5, x6, x7, x8, x9, x10, x11, x12, x13, x14, x15, x16, 3, pc⟩) (by simp)) 17
  go_wp2_with (go_at_call 20; refine (rbit_calls x0 HC.out.2 3 (by decide) _).mono ?_; rw [HD.out]; rintro e wq ⟨rfl, rfl⟩)
  refine bodyPost_ret (results_two Tryd.results13 _ _ _) rfl ⟨?_, by first | exact H0.out.bel | (rw [hbb]; exact H0.out.bel)⟩
  obtain ⟨hs, hn⟩ := HS.out
  rw [hs]
  rfl
set_option maxRecDepth 100000 in
set_option maxHeartbeats 1600000 in
theorem rpend_3th (s : St) (n : Nat) (hp : s.p = 3) (hF : Wf s) (hc : hb s.x0 3 = true) (hh : fInt (bits .andNot .u32 (sAsks s) s.x2) = (n : Int)) (hn : n < 32) (hs : sPend s = (2147483648 + (n : Int), true)) (w : World) : Calls Tryd.prog 13 #[.agg s.r] w fun e w' => e = .returned (.tuple #[.int .u32 (sPend s).1, .bool (sPend s).2]) ∧ Below w.heap.size w w' := by
  obtain ⟨x0, x1, x2, x3, x4, x5, x6, x7, x8, x9, x10, x11, x12, x13, x14, x15, x16, p, pc⟩ := s
  obtain rfl : p = 3 := hp
  have hcm := compl_and (bits .and .u32 x4 x3) x2 hF.h2
  have hx0 : W32 x0 := hF.h0
  clear hF
  have HC := _root_.Go.Lib.hid (And.intro hcm hx0)
  clear hcm hx0
  have HD := _root_.Go.Lib.hid hc
  clear hc
  have hh2 : fInt (bits .andNot .u32 (bits .and .u32 x4 x3) x2) = (n : Int) := hh
  have HH := _root_.Go.Lib.hid hh2
  clear hh hh2
  have HS := _root_.Go.Lib.hid (And.intro hs hn)
  clear hs hn
  have hp1 := (KW.start (Below.refl w.heap.size w) (Nat.le_refl _)).push (St.q ⟨x0, x1, x2, x3, x4, x5, x6, x7, x8, x9, x10, x11, x12, x13, x14, x15, x16, 3, pc⟩)
  have e6 : (w.alloc (St.q ⟨x0, x1, x2, x3, x4, x5, x6, x7, x8, x9, x10, x11, x12, x13, x14, x15, x16, 3, pc⟩)).heap.size = w.heap.size + 1 := by rw [World.size_alloc]
  have hp2 := hp1.push fileY
  rw [e6] at hp2
  clear e6
  have HP := _root_.Go.Lib.hid hp1
  have HQ := _root_.Go.Lib.hid hp2
  clear hp1 hp2
  go_enter Tryd.func13, Tryd.ntmps13
  go_upto_region 2 with (first | ((with_reducible apply Go.Mem.wpList_load_part 25 (vs := #[.int .u32 x0, .int .u32 x1, .int .u32 x2, .int .u32 x3, .int .u32 x4, .int .u32 x5, .int .u32 x6, .int .u32 x7, .int .u32 x8, .int .u32 x9, .int .u32 x10, .int .u32 x11, .int .u32 x12, .int .u32 x13, .int .u32 x14, .int .u32 x15, .int .u64 x16]) Tryd.underlying25); rfl; rfl; (exact HP.out.get (g := w.heap.size) (o := St.q ⟨x0, x1, x2, x3, x4, x5, x6, x7, x8, x9, x10, x11, x12, x13, x14, x15, x16, 3, pc⟩) (by simp)); exact size25; rfl) | ((with_reducible apply wpList_store_at 25); rfl; rfl; (exact HQ.out.get (g := w.heap.size + 1) (o := fileY) (by simp)); exact size25; rfl; rfl; rfl; (have h2 := KW.row (vs := #[.int .u32 x0, .int .u32 x1, .int .u32 x2, .int .u32 x3, .int .u32 x4, .int .u32 x5, .int .u32 x6, .int .u32 x7, .int .u32 x8, .int .u32 x9, .int .u32 x10, .int .u32 x11, .int .u32 x12, .int .u32 x13, .int .u32 x14, .int .u32 x15, .int .u64 x16]) HQ.out); (generalize World.setRow _ (w.heap.size + 1) _ = w0 at h2 ⊢)))
  clear HP HQ
  generalize hbb : w.heap.size = b at h2 ⊢
  generalize hbb2 : b + 1 = fb at h2 ⊢
  have H0 := _root_.Go.Lib.hid h2
  clear h2
  have n0_0 : w0.cell? ⟨fb, 0, none⟩ = some (.int .u32 x0) := cell_at (H0.out.get (g := fb) (o := .cells #[.int .u32 x0, .int .u32 x1, .int .u32 x2, .int .u32 x3, .int .u32 x4, .int .u32 x5, .int .u32 x6, .int .u32 x7, .int .u32 x8, .int .u32 x9, .int .u32 x10, .int .u32 x11, .int .u32 x12, .int .u32 x13, .int .u32 x14, .int .u32 x15, .int .u64 x16] 25) (by simp)) 0
  have n2_0 : w0.cell? ⟨fb, 2, none⟩ = some (.int .u32 x2) := cell_at (H0.out.get (g := fb) (o := .cells #[.int .u32 x0, .int .u32 x1, .int .u32 x2, .int .u32 x3, .int .u32 x4, .int .u32 x5, .int .u32 x6, .int .u32 x7, .int .u32 x8, .int .u32 x9, .int .u32 x10, .int .u32 x11, .int .u32 x12, .int .u32 x13, .int .u32 x14, .int .u32 x15, .int .u64 x16] 25) (by simp)) 2
  have n3_0 : w0.cell? ⟨fb, 3, none⟩ = some (.int .u32 x3) := cell_at (H0.out.get (g := fb) (o := .cells #[.int .u32 x0, .int .u32 x1, .int .u32 x2, .int .u32 x3, .int .u32 x4, .int .u32 x5, .int .u32 x6, .int .u32 x7, .int .u32 x8, .int .u32 x9, .int .u32 x10, .int .u32 x11, .int .u32 x12, .int .u32 x13, .int .u32 x14, .int .u32 x15, .int .u64 x16] 25) (by simp)) 3
  have n4_0 : w0.cell? ⟨fb, 4, none⟩ = some (.int .u32 x4) := cell_at (H0.out.get (g := fb) (o := .cells #[.int .u32 x0, .int .u32 x1, .int .u32 x2, .int .u32 x3, .int .u32 x4, .int .u32 x5, .int .u32 x6, .int .u32 x7, .int .u32 x8, .int .u32 x9, .int .u32 x10, .int .u32 x11, .int .u32 x12, .int .u32 x13, .int .u32 x14, .int .u32 x15, .int .u64 x16] 25) (by simp)) 4
  have m_0 : w0.cell? ⟨b, 17, none⟩ = some (.int .i64 3) := cell_at (H0.out.get (g := b) (o := St.q ⟨x0, x1, x2, x3, x4, x5, x6, x7, x8, x9, x10, x11, x12, x13, x14, x15, x16, 3, pc⟩) (by simp)) 17
  go_wp2_with (go_at_call 20; refine (rbit_calls x0 HC.out.2 3 (by decide) _).mono ?_; rw [HD.out]; rintro e wq ⟨rfl, rfl⟩)
  refine (first_calls _ (w32_bits (.inl rfl) _ _) _).mono ?_
  rw [HC.out.1]
  rw [HH.out]
  rintro e w1 ⟨rfl, hb⟩
  have k := H0.out.grown hb
  clear hb
  have H1 := _root_.Go.Lib.hid k
  clear k
  clear n0_0 n2_0 n3_0 n4_0 m_0
  clear H0
  have n0_1 : w1.cell? ⟨fb, 0, none⟩ = some (.int .u32 x0) := cell_at (H1.out.get (g := fb) (o := .cells #[.int .u32 x0, .int .u32 x1, .int .u32 x2, .int .u32 x3, .int .u32 x4, .int .u32 x5, .int .u32 x6, .int .u32 x7, .int .u32 x8, .int .u32 x9, .int .u32 x10, .int .u32 x11, .int .u32 x12, .int .u32 x13, .int .u32 x14, .int .u32 x15, .int .u64 x16] 25) (by simp)) 0
  have n2_1 : w1.cell? ⟨fb, 2, none⟩ = some (.int .u32 x2) := cell_at (H1.out.get (g := fb) (o := .cells #[.int .u32 x0, .int .u32 x1, .int .u32 x2, .int .u32 x3, .int .u32 x4, .int .u32 x5, .int .u32 x6, .int .u32 x7, .int .u32 x8, .int .u32 x9, .int .u32 x10, .int .u32 x11, .int .u32 x12, .int .u32 x13, .int .u32 x14, .int .u32 x15, .int .u64 x16] 25) (by simp)) 2
  have n3_1 : w1.cell? ⟨fb, 3, none⟩ = some (.int .u32 x3) := cell_at (H1.out.get (g := fb) (o := .cells #[.int .u32 x0, .int .u32 x1, .int .u32 x2, .int .u32 x3, .int .u32 x4, .int .u32 x5, .int .u32 x6, .int .u32 x7, .int .u32 x8, .int .u32 x9, .int .u32 x10, .int .u32 x11, .int .u32 x12, .int .u32 x13, .int .u32 x14, .int .u32 x15, .int .u64 x16] 25) (by simp)) 3
  have n4_1 : w1.cell? ⟨fb, 4, none⟩ = some (.int .u32 x4) := cell_at (H1.out.get (g := fb) (o := .cells #[.int .u32 x0, .int .u32 x1, .int .u32 x2, .int .u32 x3, .int .u32 x4, .int .u32 x5, .int .u32 x6, .int .u32 x7, .int .u32 x8, .int .u32 x9, .int .u32 x10, .int .u32 x11, .int .u32 x12, .int .u32 x13, .int .u32 x14, .int .u32 x15, .int .u64 x16] 25) (by simp)) 4
  have m_1 : w1.cell? ⟨b, 17, none⟩ = some (.int .i64 3) := cell_at (H1.out.get (g := b) (o := St.q ⟨x0, x1, x2, x3, x4, x5, x6, x7, x8, x9, x10, x11, x12, x13, x14, x15, x16, 3, pc⟩) (by simp)) 17
  have gn : ((n : Int) ≥ 0) = True := eq_true (by omega)
  have gn2 : (0 ≤ (n : Int)) = True := eq_true (by omega)
  go_wp2_with (go_at_call 20; refine (rbit_calls x0 HC.out.2 3 (by decide) _).mono ?_; rw [HD.out]; rintro e wq ⟨rfl, rfl⟩)
  refine bodyPost_ret (results_two Tryd.results13 _ _ _) rfl ⟨?_, by first | exact H1.out.bel | (rw [hbb]; exact H1.out.bel)⟩
  obtain ⟨hs, hn⟩ := HS.out
  rw [hs]
  have e : ((2147483648 + (n : Int) % 4294967296) % 4294967296) = 2147483648 + (n : Int) := by omega
  first | rfl | exact congrArg (fun z => Ending.returned (.tuple #[.int .u32 z, .bool true])) e | (trace_state; exact congrArg (fun z => Ending.returned (.tuple #[.int .u32 z, .bool true])) (by omega))
set_option maxRecDepth 100000 in
set_option maxHeartbeats 1600000 in
theorem rpend_3tn (s : St) (n : Nat) (hp : s.p = 3) (hF : Wf s) (hc : hb s.x0 3 = true) (hh : fInt (bits .andNot .u32 (sAsks s) s.x2) = -1) (hn : n < 32) (hs : sPend s = (0, false)) (w : World) : Calls Tryd.prog 13 #[.agg s.r] w fun e w' => e = .returned (.tuple #[.int .u32 (sPend s).1, .bool (sPend s).2]) ∧ Below w.heap.size w w' := by
  obtain ⟨x0, x1, x2, x3, x4, x5, x6, x7, x8, x9, x10, x11, x12, x13, x14, x15, x16, p, pc⟩ := s
  obtain rfl : p = 3 := hp
  have hcm := compl_and (bits .and .u32 x4 x3) x2 hF.h2
  have hx0 : W32 x0 := hF.h0
  clear hF
  have HC := _root_.Go.Lib.hid (And.intro hcm hx0)
  clear hcm hx0
  have HD := _root_.Go.Lib.hid hc
  clear hc
  have hh2 : fInt (bits .andNot .u32 (bits .and .u32 x4 x3) x2) = -1 := hh
  have HH := _root_.Go.Lib.hid hh2
  clear hh hh2
  have HS := _root_.Go.Lib.hid (And.intro hs hn)
  clear hs hn
  have hp1 := (KW.start (Below.refl w.heap.size w) (Nat.le_refl _)).push (St.q ⟨x0, x1, x2, x3, x4, x5, x6, x7, x8, x9, x10, x11, x12, x13, x14, x15, x16, 3, pc⟩)
  have e6 : (w.alloc (St.q ⟨x0, x1, x2, x3, x4, x5, x6, x7, x8, x9, x10, x11, x12, x13, x14, x15, x16, 3, pc⟩)).heap.size = w.heap.size + 1 := by rw [World.size_alloc]
  have hp2 := hp1.push fileY
  rw [e6] at hp2
  clear e6
  have HP := _root_.Go.Lib.hid hp1
  have HQ := _root_.Go.Lib.hid hp2
  clear hp1 hp2
  go_enter Tryd.func13, Tryd.ntmps13
  go_upto_region 2 with (first | ((with_reducible apply Go.Mem.wpList_load_part 25 (vs := #[.int .u32 x0, .int .u32 x1, .int .u32 x2, .int .u32 x3, .int .u32 x4, .int .u32 x5, .int .u32 x6, .int .u32 x7, .int .u32 x8, .int .u32 x9, .int .u32 x10, .int .u32 x11, .int .u32 x12, .int .u32 x13, .int .u32 x14, .int .u32 x15, .int .u64 x16]) Tryd.underlying25); rfl; rfl; (exact HP.out.get (g := w.heap.size) (o := St.q ⟨x0, x1, x2, x3, x4, x5, x6, x7, x8, x9, x10, x11, x12, x13, x14, x15, x16, 3, pc⟩) (by simp)); exact size25; rfl) | ((with_reducible apply wpList_store_at 25); rfl; rfl; (exact HQ.out.get (g := w.heap.size + 1) (o := fileY) (by simp)); exact size25; rfl; rfl; rfl; (have h2 := KW.row (vs := #[.int .u32 x0, .int .u32 x1, .int .u32 x2, .int .u32 x3, .int .u32 x4, .int .u32 x5, .int .u32 x6, .int .u32 x7, .int .u32 x8, .int .u32 x9, .int .u32 x10, .int .u32 x11, .int .u32 x12, .int .u32 x13, .int .u32 x14, .int .u32 x15, .int .u64 x16]) HQ.out); (generalize World.setRow _ (w.heap.size + 1) _ = w0 at h2 ⊢)))
  clear HP HQ
  generalize hbb : w.heap.size = b at h2 ⊢
  generalize hbb2 : b + 1 = fb at h2 ⊢
  have H0 := _root_.Go.Lib.hid h2
  clear h2
  have n0_0 : w0.cell? ⟨fb, 0, none⟩ = some (.int .u32 x0) := cell_at (H0.out.get (g := fb) (o := .cells #[.int .u32 x0, .int .u32 x1, .int .u32 x2, .int .u32 x3, .int .u32 x4, .int .u32 x5, .int .u32 x6, .int .u32 x7, .int .u32 x8, .int .u32 x9, .int .u32 x10, .int .u32 x11, .int .u32 x12, .int .u32 x13, .int .u32 x14, .int .u32 x15, .int .u64 x16] 25) (by simp)) 0
  have n2_0 : w0.cell? ⟨fb, 2, none⟩ = some (.int .u32 x2) := cell_at (H0.out.get (g := fb) (o := .cells #[.int .u32 x0, .int .u32 x1, .int .u32 x2, .int .u32 x3, .int .u32 x4, .int .u32 x5, .int .u32 x6, .int .u32 x7, .int .u32 x8, .int .u32 x9, .int .u32 x10, .int .u32 x11, .int .u32 x12, .int .u32 x13, .int .u32 x14, .int .u32 x15, .int .u64 x16] 25) (by simp)) 2
  have n3_0 : w0.cell? ⟨fb, 3, none⟩ = some (.int .u32 x3) := cell_at (H0.out.get (g := fb) (o := .cells #[.int .u32 x0, .int .u32 x1, .int .u32 x2, .int .u32 x3, .int .u32 x4, .int .u32 x5, .int .u32 x6, .int .u32 x7, .int .u32 x8, .int .u32 x9, .int .u32 x10, .int .u32 x11, .int .u32 x12, .int .u32 x13, .int .u32 x14, .int .u32 x15, .int .u64 x16] 25) (by simp)) 3
  have n4_0 : w0.cell? ⟨fb, 4, none⟩ = some (.int .u32 x4) := cell_at (H0.out.get (g := fb) (o := .cells #[.int .u32 x0, .int .u32 x1, .int .u32 x2, .int .u32 x3, .int .u32 x4, .int .u32 x5, .int .u32 x6, .int .u32 x7, .int .u32 x8, .int .u32 x9, .int .u32 x10, .int .u32 x11, .int .u32 x12, .int .u32 x13, .int .u32 x14, .int .u32 x15, .int .u64 x16] 25) (by simp)) 4
  have m_0 : w0.cell? ⟨b, 17, none⟩ = some (.int .i64 3) := cell_at (H0.out.get (g := b) (o := St.q ⟨x0, x1, x2, x3, x4, x5, x6, x7, x8, x9, x10, x11, x12, x13, x14, x15, x16, 3, pc⟩) (by simp)) 17
  go_wp2_with (go_at_call 20; refine (rbit_calls x0 HC.out.2 3 (by decide) _).mono ?_; rw [HD.out]; rintro e wq ⟨rfl, rfl⟩)
  refine (first_calls _ (w32_bits (.inl rfl) _ _) _).mono ?_
  rw [HC.out.1]
  rw [HH.out]
  rintro e w1 ⟨rfl, hb⟩
  have k := H0.out.grown hb
  clear hb
  have H1 := _root_.Go.Lib.hid k
  clear k
  clear n0_0 n2_0 n3_0 n4_0 m_0
  clear H0
  have n0_1 : w1.cell? ⟨fb, 0, none⟩ = some (.int .u32 x0) := cell_at (H1.out.get (g := fb) (o := .cells #[.int .u32 x0, .int .u32 x1, .int .u32 x2, .int .u32 x3, .int .u32 x4, .int .u32 x5, .int .u32 x6, .int .u32 x7, .int .u32 x8, .int .u32 x9, .int .u32 x10, .int .u32 x11, .int .u32 x12, .int .u32 x13, .int .u32 x14, .int .u32 x15, .int .u64 x16] 25) (by simp)) 0
  have n2_1 : w1.cell? ⟨fb, 2, none⟩ = some (.int .u32 x2) := cell_at (H1.out.get (g := fb) (o := .cells #[.int .u32 x0, .int .u32 x1, .int .u32 x2, .int .u32 x3, .int .u32 x4, .int .u32 x5, .int .u32 x6, .int .u32 x7, .int .u32 x8, .int .u32 x9, .int .u32 x10, .int .u32 x11, .int .u32 x12, .int .u32 x13, .int .u32 x14, .int .u32 x15, .int .u64 x16] 25) (by simp)) 2
  have n3_1 : w1.cell? ⟨fb, 3, none⟩ = some (.int .u32 x3) := cell_at (H1.out.get (g := fb) (o := .cells #[.int .u32 x0, .int .u32 x1, .int .u32 x2, .int .u32 x3, .int .u32 x4, .int .u32 x5, .int .u32 x6, .int .u32 x7, .int .u32 x8, .int .u32 x9, .int .u32 x10, .int .u32 x11, .int .u32 x12, .int .u32 x13, .int .u32 x14, .int .u32 x15, .int .u64 x16] 25) (by simp)) 3
  have n4_1 : w1.cell? ⟨fb, 4, none⟩ = some (.int .u32 x4) := cell_at (H1.out.get (g := fb) (o := .cells #[.int .u32 x0, .int .u32 x1, .int .u32 x2, .int .u32 x3, .int .u32 x4, .int .u32 x5, .int .u32 x6, .int .u32 x7, .int .u32 x8, .int .u32 x9, .int .u32 x10, .int .u32 x11, .int .u32 x12, .int .u32 x13, .int .u32 x14, .int .u32 x15, .int .u64 x16] 25) (by simp)) 4
  have m_1 : w1.cell? ⟨b, 17, none⟩ = some (.int .i64 3) := cell_at (H1.out.get (g := b) (o := St.q ⟨x0, x1, x2, x3, x4, x5, x6, x7, x8, x9, x10, x11, x12, x13, x14, x15, x16, 3, pc⟩) (by simp)) 17
  go_wp2_with (go_at_call 20; refine (rbit_calls x0 HC.out.2 3 (by decide) _).mono ?_; rw [HD.out]; rintro e wq ⟨rfl, rfl⟩)
  refine bodyPost_ret (results_two Tryd.results13 _ _ _) rfl ⟨?_, by first | exact H1.out.bel | (rw [hbb]; exact H1.out.bel)⟩
  obtain ⟨hs, hn⟩ := HS.out
  rw [hs]
  rfl
theorem rpend_calls (s : St) (hr : Right s) (hF : Wf s) (w : World) : Calls Tryd.prog 13 #[.agg s.r] w fun e w' => e = .returned (.tuple #[.int .u32 (sPend s).1, .bool (sPend s).2]) ∧ Below w.heap.size w w' := by
  have z : pFirst 0 = none := pFirst_zero
  rcases hr with hp | hp | hp
  · have h1 : sHigh s = bits .andNot .u32 (sAsks s) s.x2 := by unfold sHigh; rw [hp]; rfl
    have h2 : sLow s = bits .and .u32 (sAsks s) s.x2 := by unfold sLow; rw [hp]; rfl
    cases e1 : pFirst (sHigh s) with
    | some n =>
      obtain ⟨a, b, c⟩ := tell_hi (sHigh s) (sLow s) n e1
      exact rpend_0h s n hp hF (by rw [← h1]; exact c) b a w
    | none =>
      have f1 := fInt_none _ e1
      cases e2 : pFirst (sLow s) with
      | some n =>
        obtain ⟨a, b, c⟩ := tell_lo (sHigh s) (sLow s) n e1 e2
        exact rpend_0l s n hp hF (by rw [← h1]; exact f1) (by rw [← h2]; exact c) b a w
      | none => exact rpend_0n s 0 hp hF (by rw [← h1]; exact f1) (by rw [← h2]; exact fInt_none _ e2) (by decide) (tell_no _ _ e1 e2) w
  · have h1 : sHigh s = bits .andNot .u32 (sAsks s) s.x2 := by unfold sHigh; rw [hp]; rfl
    cases hc : hb s.x0 1
    · have h2 : sLow s = 0 := by unfold sLow; rw [hp, has2, hc]; rfl
      cases e1 : pFirst (sHigh s) with
      | some n =>
        obtain ⟨a, b, c⟩ := tell_hi (sHigh s) (sLow s) n e1
        exact rpend_1fh s n hp hF hc (by rw [← h1]; exact c) b a w
      | none => exact rpend_1fn s 0 hp hF hc (by rw [← h1]; exact fInt_none _ e1) (by decide) (tell_no _ _ e1 (by rw [h2]; exact z)) w
    · have h2 : sLow s = bits .and .u32 (sAsks s) s.x2 := by unfold sLow; rw [hp, has2, hc]; rfl
      cases e1 : pFirst (sHigh s) with
      | some n =>
        obtain ⟨a, b, c⟩ := tell_hi (sHigh s) (sLow s) n e1
        exact rpend_1th s n hp hF hc (by rw [← h1]; exact c) b a w
      | none =>
        have f1 := fInt_none _ e1
        cases e2 : pFirst (sLow s) with
        | some n =>
          obtain ⟨a, b, c⟩ := tell_lo (sHigh s) (sLow s) n e1 e2
          exact rpend_1tl s n hp hF hc (by rw [← h1]; exact f1) (by rw [← h2]; exact c) b a w
        | none => exact rpend_1tn s 0 hp hF hc (by rw [← h1]; exact f1) (by rw [← h2]; exact fInt_none _ e2) (by decide) (tell_no _ _ e1 e2) w
  · have h2 : sLow s = 0 := by unfold sLow; rw [hp]; rfl
    cases hc : hb s.x0 3
    · have h1 : sHigh s = 0 := by unfold sHigh; rw [hp, has8, hc]; rfl
      exact rpend_3f s 0 hp hF hc (by decide) (tell_no _ _ (by rw [h1]; exact z) (by rw [h2]; exact z)) w
    · have h1 : sHigh s = bits .andNot .u32 (sAsks s) s.x2 := by unfold sHigh; rw [hp, has8, hc]; rfl
      cases e1 : pFirst (sHigh s) with
      | some n =>
        obtain ⟨a, b, c⟩ := tell_hi (sHigh s) (sLow s) n e1
        exact rpend_3th s n hp hF hc (by rw [← h1]; exact c) b a w
      | none => exact rpend_3tn s 0 hp hF hc (by rw [← h1]; exact fInt_none _ e1) (by decide) (tell_no _ _ e1 (by rw [h2]; exact z)) w
end Go.Proofs.YtkebphpfedgokaaDoor
