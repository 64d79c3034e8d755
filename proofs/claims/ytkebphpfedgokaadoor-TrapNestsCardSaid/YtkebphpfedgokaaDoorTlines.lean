/-
  TrapLines: of interrupts that are handed down none is taken by the highest privilege.
-/
import Derived.Test.YtkebphpfedgokaaDoorAlive
import Derived.Test.YtkebphpfedgokaaDoorBit
import Derived.Test.YtkebphpfedgokaaDoorOpens
set_option linter.unusedVariables false
set_option linter.unusedSimpArgs false
namespace Go.Proofs.YtkebphpfedgokaaDoor
open Go.RowKit Go.Lib

theorem has_zero (b : Int) : tHas 0 b = false := by
  unfold tHas
  rw [and_bv]
  simp
theorem pFirst_zero : pFirst 0 = none := by unfold pFirst; simp only [has_zero]; rfl
theorem pTell_zero : pTell 0 0 = (0, false) := by unfold pTell; rw [pFirst_zero]
theorem andNot_all (x : Int) : bits .andNot .u32 x 4294967295 = 0 := by
  rw [andNot_bv]
  have : ~~~BitVec.ofInt 32 4294967295 = 0#32 := by decide
  rw [this]; simp
theorem and_none (x y : Int) : bits .and .u32 (bits .andNot .u32 x y) y = 0 := by
  rw [and_bv, andNot_bv, ofInt_bv, BitVec.and_assoc]
  have : ~~~BitVec.ofInt 32 y &&& BitVec.ofInt 32 y = 0#32 := by
    ext i hi
    simp
  rw [this]; simp
theorem and_zero (x : Int) : bits .and .u32 x 0 = 0 := by rw [and_bv]; simp
theorem zero_and (x : Int) : bits .and .u32 0 x = 0 := by rw [and_bv]; simp
theorem zero_andNot (x : Int) : bits .andNot .u32 0 x = 0 := by rw [andNot_bv]; simp
theorem mask_bits : ∀ i, i < 32 → (BitVec.ofInt 32 2730).getLsbD i = true → i = 1 ∨ i = 3 ∨ i = 5 ∨ i = 7 ∨ i = 9 ∨ i = 11 := by decide
theorem mask_zero (b : Int) : (bits .and .u32 b 2730 == 0) = !(hb b 11 || hb b 3 || hb b 7 || hb b 9 || hb b 1 || hb b 5) := by
  rw [and_bv]
  cases h : (hb b 11 || hb b 3 || hb b 7 || hb b 9 || hb b 1 || hb b 5)
  · simp only [Bool.or_eq_false_iff] at h
    obtain ⟨⟨⟨⟨⟨h11, h3⟩, h7⟩, h9⟩, h1⟩, h5⟩ := h
    have : BitVec.ofInt 32 b &&& BitVec.ofInt 32 2730 = 0#32 := by
      apply BitVec.eq_of_getLsbD_eq
      intro i hi
      rw [BitVec.getLsbD_and, BitVec.getLsbD_zero]
      cases hm : (BitVec.ofInt 32 2730).getLsbD i
      · simp
      · rcases mask_bits i hi hm with rfl | rfl | rfl | rfl | rfl | rfl
        · rw [show (BitVec.ofInt 32 b).getLsbD 1 = false from h1]; rfl
        · rw [show (BitVec.ofInt 32 b).getLsbD 3 = false from h3]; rfl
        · rw [show (BitVec.ofInt 32 b).getLsbD 5 = false from h5]; rfl
        · rw [show (BitVec.ofInt 32 b).getLsbD 7 = false from h7]; rfl
        · rw [show (BitVec.ofInt 32 b).getLsbD 9 = false from h9]; rfl
        · rw [show (BitVec.ofInt 32 b).getLsbD 11 = false from h11]; rfl
    rw [this]; rfl
  · have key : ∀ k, k < 32 → (BitVec.ofInt 32 2730).getLsbD k = true → hb b k = true → (((BitVec.ofInt 32 b &&& BitVec.ofInt 32 2730).toNat : Int) == 0) = false := by
      intro k hk hm hx
      rw [beq_eq_false_iff_ne]
      intro e
      have e0 : (BitVec.ofInt 32 b &&& BitVec.ofInt 32 2730).toNat = 0 := by omega
      have e1 : BitVec.ofInt 32 b &&& BitVec.ofInt 32 2730 = 0#32 := BitVec.eq_of_toNat_eq e0
      have e2 := congrArg (·.getLsbD k) e1
      simp only [BitVec.getLsbD_and, BitVec.getLsbD_zero, hm, Bool.and_true] at e2
      unfold hb at hx
      rw [hx] at e2
      cases e2
    simp only [Bool.or_eq_true] at h
    rcases h with ((((h | h) | h) | h) | h) | h
    · exact key 11 (by decide) (by decide) h
    · exact key 3 (by decide) (by decide) h
    · exact key 7 (by decide) (by decide) h
    · exact key 9 (by decide) (by decide) h
    · exact key 1 (by decide) (by decide) h
    · exact key 5 (by decide) (by decide) h
theorem first_some (b : Int) : (pFirst b).isSome = (hb b 11 || hb b 3 || hb b 7 || hb b 9 || hb b 1 || hb b 5) := by
  unfold pFirst
  rw [has2048, has8, has128, has512, has2, has32]
  cases hb b 11 <;> cases hb b 3 <;> cases hb b 7 <;> cases hb b 9 <;> cases hb b 1 <;> cases hb b 5 <;> rfl
theorem tell_some (h : Int) : (pTell h 0).2 = (pFirst h).isSome := by
  unfold pTell
  rw [pFirst_zero]
  cases pFirst h <;> rfl
/-- No bit of the order is set just if none under the mask is. -/
theorem first_mask (b : Int) : (pFirst b).isSome = !(bits .and .u32 b 2730 == 0) := by
  rw [first_some, mask_zero, Bool.not_not]
theorem andNot_and (x y : Int) : bits .andNot .u32 (bits .and .u32 x y) 0 = bits .and .u32 x y := by
  rw [andNot_bv]
  have : ~~~BitVec.ofInt 32 0 = BitVec.allOnes 32 := by decide
  rw [this, BitVec.and_allOnes, and_bv, ofInt_bv]
theorem lines_3 (s : St) (hr : Right s) : (sPend { s with x0 := bits .or .u32 s.x0 10, x2 := 0 }).2 = !(bits .and .u32 (bits .and .u32 s.x4 s.x3) 2730 == 0) := by
  have h1 : sHigh { s with x0 := bits .or .u32 s.x0 10, x2 := 0 } = bits .and .u32 s.x4 s.x3 := by
    unfold sHigh sAsks
    simp only [andNot_and, has8, hb_or]
    rw [show hb 10 3 = true by decide]
    simp
  have h2 : sLow { s with x0 := bits .or .u32 s.x0 10, x2 := 0 } = 0 := by
    unfold sLow sAsks
    simp only [and_zero]
    simp
  unfold sPend
  rw [h1, h2, tell_some, first_mask]
theorem lines_1 (s : St) (hp : s.p = 3) : (sPend { s with x2 := 4294967295 }).2 = false := by
  have h1 : sHigh { s with x2 := 4294967295 } = 0 := by
    unfold sHigh
    simp only [andNot_all]
    simp
  have h2 : sLow { s with x2 := 4294967295 } = 0 := by
    unfold sLow
    simp [hp]
  unfold sPend
  rw [h1, h2, pTell_zero]
theorem lines_2 (s : St) : (sPend { s with x4 := bits .andNot .u32 s.x4 s.x3 }).2 = false := by
  have h1 : sHigh { s with x4 := bits .andNot .u32 s.x4 s.x3 } = 0 := by
    unfold sHigh sAsks
    simp only [and_none, zero_andNot]
    simp
  have h2 : sLow { s with x4 := bits .andNot .u32 s.x4 s.x3 } = 0 := by
    unfold sLow sAsks
    simp only [and_none, zero_and]
    simp
  unfold sPend
  rw [h1, h2, pTell_zero]

set_option maxRecDepth 100000 in
set_option maxHeartbeats 1600000 in
theorem tlines_wrong (s : St) (hr : ¬ Right s) (w : World) (hT : Tab w) : Calls Tryd.prog 8 #[.agg s.r] w fun e w' => e = .returned (.bool true) ∧ Below w.heap.size w w' := by
  obtain ⟨x0, x1, x2, x3, x4, x5, x6, x7, x8, x9, x10, x11, x12, x13, x14, x15, x16, p, pc⟩ := s
  have HT := _root_.Go.Lib.hid hT
  clear hT
  have k0 := (KW.start (Below.refl w.heap.size w) (Nat.le_refl _)).push (St.q ⟨x0, x1, x2, x3, x4, x5, x6, x7, x8, x9, x10, x11, x12, x13, x14, x15, x16, p, pc⟩)
  have H0 := _root_.Go.Lib.hid k0
  clear k0
  have HR := _root_.Go.Lib.hid hr
  clear hr
  go_enter Tryd.func8, Tryd.ntmps8
  go_wp2_with fail
  refine (alive_calls _ (HT.out.below H0.out.bel HT.out.pos)).mono ?_
  rintro e w1 ⟨rfl, hb⟩
  have k := H0.out.grown hb
  clear hb H0
  have H1 := _root_.Go.Lib.hid k
  clear k
  go_wp2_with ((with_reducible apply wpList_load_at 27 Tryd.underlying27); rfl; exact H1.out.get (g := w.heap.size) (o := St.q ⟨x0, x1, x2, x3, x4, x5, x6, x7, x8, x9, x10, x11, x12, x13, x14, x15, x16, p, pc⟩) (by simp); rfl; exact size27)
  refine (wrong_calls ⟨x0, x1, x2, x3, x4, x5, x6, x7, x8, x9, x10, x11, x12, x13, x14, x15, x16, p, pc⟩ HR.out _).mono ?_
  rintro e w2 ⟨rfl, hb⟩
  have k := H1.out.grown hb
  clear hb H1
  have H2 := _root_.Go.Lib.hid k
  clear k
  go_wp2
  go_ret
  exact ⟨rfl, H2.out.bel⟩
set_option maxRecDepth 100000 in
set_option maxHeartbeats 1600000 in
theorem tlines_0t (s : St) (hr : Right s) (hp : s.p = 0) (hi : (sPend { s with x2 := 4294967295 }).2 = true) (w : World) (hT : Tab w) : Calls Tryd.prog 8 #[.agg s.r] w fun e w' => e = .returned (.bool true) ∧ Below w.heap.size w w' := by
  obtain ⟨x0, x1, x2, x3, x4, x5, x6, x7, x8, x9, x10, x11, x12, x13, x14, x15, x16, p, pc⟩ := s
  obtain rfl : p = 0 := hp
  have e1 : (sPend ⟨x0, x1, 4294967295, x3, x4, x5, x6, x7, x8, x9, x10, x11, x12, x13, x14, x15, x16, 0, pc⟩).2 = true := hi
  have e2 : (sPend ⟨x0, x1, x2, x3, (bits .andNot .u32 x4 x3), x5, x6, x7, x8, x9, x10, x11, x12, x13, x14, x15, x16, 0, pc⟩).2 = false := lines_2 ⟨x0, x1, x2, x3, x4, x5, x6, x7, x8, x9, x10, x11, x12, x13, x14, x15, x16, 0, pc⟩
  have e3 := lines_3 ⟨x0, x1, x2, x3, x4, x5, x6, x7, x8, x9, x10, x11, x12, x13, x14, x15, x16, 0, pc⟩ hr
  clear hi
  have p1 : ∀ w, Tab w → Calls Tryd.prog 12 #[.agg (St.r ⟨x0, x1, 4294967295, x3, x4, x5, x6, x7, x8, x9, x10, x11, x12, x13, x14, x15, x16, 0, pc⟩)] w fun e w' => e = .returned (.tuple #[.int .u32 (sPend ⟨x0, x1, 4294967295, x3, x4, x5, x6, x7, x8, x9, x10, x11, x12, x13, x14, x15, x16, 0, pc⟩).1, .bool true]) ∧ Below w.heap.size w w' := by
    intro w h
    have := pending_calls ⟨x0, x1, 4294967295, x3, x4, x5, x6, x7, x8, x9, x10, x11, x12, x13, x14, x15, x16, 0, pc⟩ hr w h
    rw [e1] at this
    exact this
  generalize (sPend ⟨x0, x1, 4294967295, x3, x4, x5, x6, x7, x8, x9, x10, x11, x12, x13, x14, x15, x16, 0, pc⟩).1 = r1 at p1
  have P1 := _root_.Go.Lib.hid p1
  clear p1
  have p2 : ∀ w, Tab w → Calls Tryd.prog 12 #[.agg (St.r ⟨x0, x1, x2, x3, (bits .andNot .u32 x4 x3), x5, x6, x7, x8, x9, x10, x11, x12, x13, x14, x15, x16, 0, pc⟩)] w fun e w' => e = .returned (.tuple #[.int .u32 (sPend ⟨x0, x1, x2, x3, (bits .andNot .u32 x4 x3), x5, x6, x7, x8, x9, x10, x11, x12, x13, x14, x15, x16, 0, pc⟩).1, .bool false]) ∧ Below w.heap.size w w' := by
    intro w h
    have := pending_calls ⟨x0, x1, x2, x3, (bits .andNot .u32 x4 x3), x5, x6, x7, x8, x9, x10, x11, x12, x13, x14, x15, x16, 0, pc⟩ hr w h
    rw [e2] at this
    exact this
  generalize (sPend ⟨x0, x1, x2, x3, (bits .andNot .u32 x4 x3), x5, x6, x7, x8, x9, x10, x11, x12, x13, x14, x15, x16, 0, pc⟩).1 = r2 at p2
  have P2 := _root_.Go.Lib.hid p2
  clear p2
  have p3 : ∀ w, Tab w → Calls Tryd.prog 12 #[.agg (St.r ⟨(bits .or .u32 x0 10), x1, 0, x3, x4, x5, x6, x7, x8, x9, x10, x11, x12, x13, x14, x15, x16, 0, pc⟩)] w fun e w' => e = .returned (.tuple #[.int .u32 (sPend ⟨(bits .or .u32 x0 10), x1, 0, x3, x4, x5, x6, x7, x8, x9, x10, x11, x12, x13, x14, x15, x16, 0, pc⟩).1, .bool (!(bits .and .u32 (bits .and .u32 x4 x3) 2730 == 0))]) ∧ Below w.heap.size w w' := by
    intro w h
    have := pending_calls ⟨(bits .or .u32 x0 10), x1, 0, x3, x4, x5, x6, x7, x8, x9, x10, x11, x12, x13, x14, x15, x16, 0, pc⟩ hr w h
    rw [e3] at this
    exact this
  generalize (sPend ⟨(bits .or .u32 x0 10), x1, 0, x3, x4, x5, x6, x7, x8, x9, x10, x11, x12, x13, x14, x15, x16, 0, pc⟩).1 = r3 at p3
  have P3 := _root_.Go.Lib.hid p3
  clear p3
  clear e1 e2 e3
  have HT := _root_.Go.Lib.hid hT
  clear hT
  have k0 := (KW.start (Below.refl w.heap.size w) (Nat.le_refl _)).push (St.q ⟨x0, x1, x2, x3, x4, x5, x6, x7, x8, x9, x10, x11, x12, x13, x14, x15, x16, 0, pc⟩)
  have H0 := _root_.Go.Lib.hid k0
  clear k0
  have HR := _root_.Go.Lib.hid hr
  clear hr
  go_enter Tryd.func8, Tryd.ntmps8
  go_wp2_with fail
  refine (alive_calls _ (HT.out.below H0.out.bel HT.out.pos)).mono ?_
  rintro e w1 ⟨rfl, hb⟩
  have k := H0.out.grown hb
  clear hb H0
  have H1 := _root_.Go.Lib.hid k
  clear k
  go_wp2_with ((with_reducible apply wpList_load_at 27 Tryd.underlying27); rfl; exact H1.out.get (g := w.heap.size) (o := St.q ⟨x0, x1, x2, x3, x4, x5, x6, x7, x8, x9, x10, x11, x12, x13, x14, x15, x16, 0, pc⟩) (by simp); rfl; exact size27)
  refine (right_calls ⟨x0, x1, x2, x3, x4, x5, x6, x7, x8, x9, x10, x11, x12, x13, x14, x15, x16, 0, pc⟩ HR.out _).mono ?_
  rintro e w2 ⟨rfl, hb⟩
  have k := H1.out.grown hb
  clear hb H1
  have H2 := _root_.Go.Lib.hid k
  clear k
  go_wp2_with ((with_reducible apply wpList_load_at 27 Tryd.underlying27); rfl; exact H2.out.get (g := w.heap.size) (o := St.q ⟨x0, x1, x2, x3, x4, x5, x6, x7, x8, x9, x10, x11, x12, x13, x14, x15, x16, 0, pc⟩) (by simp); rfl; exact size27)
  refine (theirs_calls ⟨x0, x1, x2, x3, x4, x5, x6, x7, x8, x9, x10, x11, x12, x13, x14, x15, x16, 0, pc⟩ _).mono ?_
  rintro e w3 ⟨rfl, hb⟩
  have k := H2.out.grown hb
  clear hb H2
  have H3 := _root_.Go.Lib.hid k
  clear k
  have k := H3.out.push resO
  have P := _root_.Go.Lib.hid k
  clear k
  go_upto_region 6 with ((with_reducible apply wpList_store_at 32); rfl; rfl; (exact P.out.get (g := w3.heap.size) (o := resO) (by simp)); exact size32; rfl; rfl; rfl; (have h := KW.row (vs := St.r ⟨x0, x1, x2, x3, x4, x5, x6, x7, x8, x9, x10, x11, x12, x13, x14, x15, x16, 0, pc⟩) P.out); (generalize World.setRow _ (World.heap w3).size _ = w4 at h ⊢))
  generalize (World.heap w3).size = g1 at h ⊢
  clear P H3 w3
  have H4 := _root_.Go.Lib.hid h
  clear h
  have m2 : w4.cell? ⟨g1, 2, none⟩ = some (.int .u32 x2) := cell_at (H4.out.get (g := g1) (o := .cells (#[.int .u32 x0, .int .u32 x1, .int .u32 x2, .int .u32 x3, .int .u32 x4, .int .u32 x5, .int .u32 x6, .int .u32 x7, .int .u32 x8, .int .u32 x9, .int .u32 x10, .int .u32 x11, .int .u32 x12, .int .u32 x13, .int .u32 x14, .int .u32 x15, .int .u64 x16, .int .i64 0, .int .u32 pc]) 32) (by simp)) 2
  have f2 : w4.frozen? ⟨g1, 2, none⟩ = false := free_at (H4.out.get (g := g1) (o := .cells (#[.int .u32 x0, .int .u32 x1, .int .u32 x2, .int .u32 x3, .int .u32 x4, .int .u32 x5, .int .u32 x6, .int .u32 x7, .int .u32 x8, .int .u32 x9, .int .u32 x10, .int .u32 x11, .int .u32 x12, .int .u32 x13, .int .u32 x14, .int .u32 x15, .int .u64 x16, .int .i64 0, .int .u32 pc]) 32) (by simp)) 2
  go_upto_region 7 with fail
  have k := (KW.cell (i := 2) (x := .int .u32 4294967295) (vs := #[.int .u32 x0, .int .u32 x1, .int .u32 4294967295, .int .u32 x3, .int .u32 x4, .int .u32 x5, .int .u32 x6, .int .u32 x7, .int .u32 x8, .int .u32 x9, .int .u32 x10, .int .u32 x11, .int .u32 x12, .int .u32 x13, .int .u32 x14, .int .u32 x15, .int .u64 x16, .int .i64 0, .int .u32 pc]) H4.out rfl)
  generalize World.setCell _ _ _ = w5 at k ⊢
  clear m2 f2 H4
  have H5 := _root_.Go.Lib.hid k
  clear k
  go_wp2_with ((with_reducible apply wpList_load_at 32 Tryd.underlying32); rfl; exact H5.out.get (g := g1) (o := .cells (#[.int .u32 x0, .int .u32 x1, .int .u32 4294967295, .int .u32 x3, .int .u32 x4, .int .u32 x5, .int .u32 x6, .int .u32 x7, .int .u32 x8, .int .u32 x9, .int .u32 x10, .int .u32 x11, .int .u32 x12, .int .u32 x13, .int .u32 x14, .int .u32 x15, .int .u64 x16, .int .i64 0, .int .u32 pc]) 32) (by simp); rfl; exact size32)
  refine (P1.out _ (HT.out.below H5.out.bel HT.out.pos)).mono ?_
  rintro e w6 ⟨rfl, hb⟩
  have k := H5.out.grown hb
  clear hb H5
  have H6 := _root_.Go.Lib.hid k
  clear k
  have m17 : w6.cell? ⟨g1, 17, none⟩ = some (.int .i64 0) := cell_at (H6.out.get (g := g1) (o := .cells (#[.int .u32 x0, .int .u32 x1, .int .u32 4294967295, .int .u32 x3, .int .u32 x4, .int .u32 x5, .int .u32 x6, .int .u32 x7, .int .u32 x8, .int .u32 x9, .int .u32 x10, .int .u32 x11, .int .u32 x12, .int .u32 x13, .int .u32 x14, .int .u32 x15, .int .u64 x16, .int .i64 0, .int .u32 pc]) 32) (by simp)) 17
  go_wp2_with ((with_reducible apply wpList_load_at 27 Tryd.underlying27); rfl; exact H6.out.get (g := w.heap.size) (o := St.q ⟨x0, x1, x2, x3, x4, x5, x6, x7, x8, x9, x10, x11, x12, x13, x14, x15, x16, 0, pc⟩) (by simp); rfl; exact size27)
  refine (theirs_calls ⟨x0, x1, x2, x3, x4, x5, x6, x7, x8, x9, x10, x11, x12, x13, x14, x15, x16, 0, pc⟩ _).mono ?_
  rintro e w7 ⟨rfl, hb⟩
  have k := H6.out.grown hb
  clear hb H6
  have H7 := _root_.Go.Lib.hid k
  clear k
  clear m17
  go_upto_region 11 with ((with_reducible apply wpList_store_at 32); rfl; rfl; (exact H7.out.get (g := g1) (o := .cells (#[.int .u32 x0, .int .u32 x1, .int .u32 4294967295, .int .u32 x3, .int .u32 x4, .int .u32 x5, .int .u32 x6, .int .u32 x7, .int .u32 x8, .int .u32 x9, .int .u32 x10, .int .u32 x11, .int .u32 x12, .int .u32 x13, .int .u32 x14, .int .u32 x15, .int .u64 x16, .int .i64 0, .int .u32 pc]) 32) (by simp)); exact size32; rfl; rfl; rfl; (have h := KW.row (vs := St.r ⟨x0, x1, x2, x3, x4, x5, x6, x7, x8, x9, x10, x11, x12, x13, x14, x15, x16, 0, pc⟩) H7.out); (generalize World.setRow _ g1 _ = w8 at h ⊢))
  clear H7
  have H8 := _root_.Go.Lib.hid h
  clear h
  have m3 : w8.cell? ⟨g1, 3, none⟩ = some (.int .u32 x3) := cell_at (H8.out.get (g := g1) (o := .cells (#[.int .u32 x0, .int .u32 x1, .int .u32 x2, .int .u32 x3, .int .u32 x4, .int .u32 x5, .int .u32 x6, .int .u32 x7, .int .u32 x8, .int .u32 x9, .int .u32 x10, .int .u32 x11, .int .u32 x12, .int .u32 x13, .int .u32 x14, .int .u32 x15, .int .u64 x16, .int .i64 0, .int .u32 pc]) 32) (by simp)) 3
  have m4 : w8.cell? ⟨g1, 4, none⟩ = some (.int .u32 x4) := cell_at (H8.out.get (g := g1) (o := .cells (#[.int .u32 x0, .int .u32 x1, .int .u32 x2, .int .u32 x3, .int .u32 x4, .int .u32 x5, .int .u32 x6, .int .u32 x7, .int .u32 x8, .int .u32 x9, .int .u32 x10, .int .u32 x11, .int .u32 x12, .int .u32 x13, .int .u32 x14, .int .u32 x15, .int .u64 x16, .int .i64 0, .int .u32 pc]) 32) (by simp)) 4
  have f4 : w8.frozen? ⟨g1, 4, none⟩ = false := free_at (H8.out.get (g := g1) (o := .cells (#[.int .u32 x0, .int .u32 x1, .int .u32 x2, .int .u32 x3, .int .u32 x4, .int .u32 x5, .int .u32 x6, .int .u32 x7, .int .u32 x8, .int .u32 x9, .int .u32 x10, .int .u32 x11, .int .u32 x12, .int .u32 x13, .int .u32 x14, .int .u32 x15, .int .u64 x16, .int .i64 0, .int .u32 pc]) 32) (by simp)) 4
  go_upto_region 12 with fail
  have k := (KW.cell (i := 4) (x := .int .u32 (bits .andNot .u32 x4 x3)) (vs := #[.int .u32 x0, .int .u32 x1, .int .u32 x2, .int .u32 x3, .int .u32 (bits .andNot .u32 x4 x3), .int .u32 x5, .int .u32 x6, .int .u32 x7, .int .u32 x8, .int .u32 x9, .int .u32 x10, .int .u32 x11, .int .u32 x12, .int .u32 x13, .int .u32 x14, .int .u32 x15, .int .u64 x16, .int .i64 0, .int .u32 pc]) H8.out rfl)
  generalize World.setCell _ _ _ = w9 at k ⊢
  clear m3 m4 f4 H8
  have H9 := _root_.Go.Lib.hid k
  clear k
  go_wp2_with ((with_reducible apply wpList_load_at 32 Tryd.underlying32); rfl; exact H9.out.get (g := g1) (o := .cells (#[.int .u32 x0, .int .u32 x1, .int .u32 x2, .int .u32 x3, .int .u32 (bits .andNot .u32 x4 x3), .int .u32 x5, .int .u32 x6, .int .u32 x7, .int .u32 x8, .int .u32 x9, .int .u32 x10, .int .u32 x11, .int .u32 x12, .int .u32 x13, .int .u32 x14, .int .u32 x15, .int .u64 x16, .int .i64 0, .int .u32 pc]) 32) (by simp); rfl; exact size32)
  refine (P2.out _ (HT.out.below H9.out.bel HT.out.pos)).mono ?_
  rintro e w10 ⟨rfl, hb⟩
  have k := H9.out.grown hb
  clear hb H9
  have H10 := _root_.Go.Lib.hid k
  clear k
  go_wp2_with ((with_reducible apply wpList_load_at 27 Tryd.underlying27); rfl; exact H10.out.get (g := w.heap.size) (o := St.q ⟨x0, x1, x2, x3, x4, x5, x6, x7, x8, x9, x10, x11, x12, x13, x14, x15, x16, 0, pc⟩) (by simp); rfl; exact size27)
  refine (theirs_calls ⟨x0, x1, x2, x3, x4, x5, x6, x7, x8, x9, x10, x11, x12, x13, x14, x15, x16, 0, pc⟩ _).mono ?_
  rintro e w11 ⟨rfl, hb⟩
  have k := H10.out.grown hb
  clear hb H10
  have H11 := _root_.Go.Lib.hid k
  clear k
  go_upto_region 14 with ((with_reducible apply wpList_store_at 32); rfl; rfl; (exact H11.out.get (g := g1) (o := .cells (#[.int .u32 x0, .int .u32 x1, .int .u32 x2, .int .u32 x3, .int .u32 (bits .andNot .u32 x4 x3), .int .u32 x5, .int .u32 x6, .int .u32 x7, .int .u32 x8, .int .u32 x9, .int .u32 x10, .int .u32 x11, .int .u32 x12, .int .u32 x13, .int .u32 x14, .int .u32 x15, .int .u64 x16, .int .i64 0, .int .u32 pc]) 32) (by simp)); exact size32; rfl; rfl; rfl; (have h := KW.row (vs := St.r ⟨x0, x1, x2, x3, x4, x5, x6, x7, x8, x9, x10, x11, x12, x13, x14, x15, x16, 0, pc⟩) H11.out); (generalize World.setRow _ g1 _ = w12 at h ⊢))
  clear H11
  have H12 := _root_.Go.Lib.hid h
  clear h
  have m0 : w12.cell? ⟨g1, 0, none⟩ = some (.int .u32 x0) := cell_at (H12.out.get (g := g1) (o := .cells (#[.int .u32 x0, .int .u32 x1, .int .u32 x2, .int .u32 x3, .int .u32 x4, .int .u32 x5, .int .u32 x6, .int .u32 x7, .int .u32 x8, .int .u32 x9, .int .u32 x10, .int .u32 x11, .int .u32 x12, .int .u32 x13, .int .u32 x14, .int .u32 x15, .int .u64 x16, .int .i64 0, .int .u32 pc]) 32) (by simp)) 0
  have m2 : w12.cell? ⟨g1, 2, none⟩ = some (.int .u32 x2) := cell_at (H12.out.get (g := g1) (o := .cells (#[.int .u32 x0, .int .u32 x1, .int .u32 x2, .int .u32 x3, .int .u32 x4, .int .u32 x5, .int .u32 x6, .int .u32 x7, .int .u32 x8, .int .u32 x9, .int .u32 x10, .int .u32 x11, .int .u32 x12, .int .u32 x13, .int .u32 x14, .int .u32 x15, .int .u64 x16, .int .i64 0, .int .u32 pc]) 32) (by simp)) 2
  have f0 : w12.frozen? ⟨g1, 0, none⟩ = false := free_at (H12.out.get (g := g1) (o := .cells (#[.int .u32 x0, .int .u32 x1, .int .u32 x2, .int .u32 x3, .int .u32 x4, .int .u32 x5, .int .u32 x6, .int .u32 x7, .int .u32 x8, .int .u32 x9, .int .u32 x10, .int .u32 x11, .int .u32 x12, .int .u32 x13, .int .u32 x14, .int .u32 x15, .int .u64 x16, .int .i64 0, .int .u32 pc]) 32) (by simp)) 0
  have f2 : w12.frozen? ⟨g1, 2, none⟩ = false := free_at (H12.out.get (g := g1) (o := .cells (#[.int .u32 x0, .int .u32 x1, .int .u32 x2, .int .u32 x3, .int .u32 x4, .int .u32 x5, .int .u32 x6, .int .u32 x7, .int .u32 x8, .int .u32 x9, .int .u32 x10, .int .u32 x11, .int .u32 x12, .int .u32 x13, .int .u32 x14, .int .u32 x15, .int .u64 x16, .int .i64 0, .int .u32 pc]) 32) (by simp)) 2
  go_upto_region 16 with fail
  have k := (KW.cell (i := 2) (x := .int .u32 0) (vs := #[.int .u32 (bits .or .u32 x0 10), .int .u32 x1, .int .u32 0, .int .u32 x3, .int .u32 x4, .int .u32 x5, .int .u32 x6, .int .u32 x7, .int .u32 x8, .int .u32 x9, .int .u32 x10, .int .u32 x11, .int .u32 x12, .int .u32 x13, .int .u32 x14, .int .u32 x15, .int .u64 x16, .int .i64 0, .int .u32 pc]) (KW.cell (i := 0) (x := .int .u32 (bits .or .u32 x0 10)) (vs := #[.int .u32 (bits .or .u32 x0 10), .int .u32 x1, .int .u32 x2, .int .u32 x3, .int .u32 x4, .int .u32 x5, .int .u32 x6, .int .u32 x7, .int .u32 x8, .int .u32 x9, .int .u32 x10, .int .u32 x11, .int .u32 x12, .int .u32 x13, .int .u32 x14, .int .u32 x15, .int .u64 x16, .int .i64 0, .int .u32 pc]) H12.out rfl) rfl)
  generalize World.setCell _ _ _ = w13 at k ⊢
  clear m0 m2 f0 f2 H12
  have H13 := _root_.Go.Lib.hid k
  clear k
  go_wp2_with ((with_reducible apply wpList_load_at 32 Tryd.underlying32); rfl; exact H13.out.get (g := g1) (o := .cells (#[.int .u32 (bits .or .u32 x0 10), .int .u32 x1, .int .u32 0, .int .u32 x3, .int .u32 x4, .int .u32 x5, .int .u32 x6, .int .u32 x7, .int .u32 x8, .int .u32 x9, .int .u32 x10, .int .u32 x11, .int .u32 x12, .int .u32 x13, .int .u32 x14, .int .u32 x15, .int .u64 x16, .int .i64 0, .int .u32 pc]) 32) (by simp); rfl; exact size32)
  refine (P3.out _ (HT.out.below H13.out.bel HT.out.pos)).mono ?_
  rintro e w14 ⟨rfl, hb⟩
  have k := H13.out.grown hb
  clear hb H13
  have H14 := _root_.Go.Lib.hid k
  clear k
  have m3 : w14.cell? ⟨g1, 3, none⟩ = some (.int .u32 x3) := cell_at (H14.out.get (g := g1) (o := .cells (#[.int .u32 (bits .or .u32 x0 10), .int .u32 x1, .int .u32 0, .int .u32 x3, .int .u32 x4, .int .u32 x5, .int .u32 x6, .int .u32 x7, .int .u32 x8, .int .u32 x9, .int .u32 x10, .int .u32 x11, .int .u32 x12, .int .u32 x13, .int .u32 x14, .int .u32 x15, .int .u64 x16, .int .i64 0, .int .u32 pc]) 32) (by simp)) 3
  have m4 : w14.cell? ⟨g1, 4, none⟩ = some (.int .u32 x4) := cell_at (H14.out.get (g := g1) (o := .cells (#[.int .u32 (bits .or .u32 x0 10), .int .u32 x1, .int .u32 0, .int .u32 x3, .int .u32 x4, .int .u32 x5, .int .u32 x6, .int .u32 x7, .int .u32 x8, .int .u32 x9, .int .u32 x10, .int .u32 x11, .int .u32 x12, .int .u32 x13, .int .u32 x14, .int .u32 x15, .int .u64 x16, .int .i64 0, .int .u32 pc]) 32) (by simp)) 4
  go_wp2
  go_ret
  exact ⟨by first | rfl | simp [bne], H14.out.bel⟩
set_option maxRecDepth 100000 in
set_option maxHeartbeats 1600000 in
theorem tlines_0f (s : St) (hr : Right s) (hp : s.p = 0) (hi : (sPend { s with x2 := 4294967295 }).2 = false) (w : World) (hT : Tab w) : Calls Tryd.prog 8 #[.agg s.r] w fun e w' => e = .returned (.bool true) ∧ Below w.heap.size w w' := by
  obtain ⟨x0, x1, x2, x3, x4, x5, x6, x7, x8, x9, x10, x11, x12, x13, x14, x15, x16, p, pc⟩ := s
  obtain rfl : p = 0 := hp
  have e1 : (sPend ⟨x0, x1, 4294967295, x3, x4, x5, x6, x7, x8, x9, x10, x11, x12, x13, x14, x15, x16, 0, pc⟩).2 = false := hi
  have e2 : (sPend ⟨x0, x1, x2, x3, (bits .andNot .u32 x4 x3), x5, x6, x7, x8, x9, x10, x11, x12, x13, x14, x15, x16, 0, pc⟩).2 = false := lines_2 ⟨x0, x1, x2, x3, x4, x5, x6, x7, x8, x9, x10, x11, x12, x13, x14, x15, x16, 0, pc⟩
  have e3 := lines_3 ⟨x0, x1, x2, x3, x4, x5, x6, x7, x8, x9, x10, x11, x12, x13, x14, x15, x16, 0, pc⟩ hr
  clear hi
  have p1 : ∀ w, Tab w → Calls Tryd.prog 12 #[.agg (St.r ⟨x0, x1, 4294967295, x3, x4, x5, x6, x7, x8, x9, x10, x11, x12, x13, x14, x15, x16, 0, pc⟩)] w fun e w' => e = .returned (.tuple #[.int .u32 (sPend ⟨x0, x1, 4294967295, x3, x4, x5, x6, x7, x8, x9, x10, x11, x12, x13, x14, x15, x16, 0, pc⟩).1, .bool false]) ∧ Below w.heap.size w w' := by
    intro w h
    have := pending_calls ⟨x0, x1, 4294967295, x3, x4, x5, x6, x7, x8, x9, x10, x11, x12, x13, x14, x15, x16, 0, pc⟩ hr w h
    rw [e1] at this
    exact this
  generalize (sPend ⟨x0, x1, 4294967295, x3, x4, x5, x6, x7, x8, x9, x10, x11, x12, x13, x14, x15, x16, 0, pc⟩).1 = r1 at p1
  have P1 := _root_.Go.Lib.hid p1
  clear p1
  have p2 : ∀ w, Tab w → Calls Tryd.prog 12 #[.agg (St.r ⟨x0, x1, x2, x3, (bits .andNot .u32 x4 x3), x5, x6, x7, x8, x9, x10, x11, x12, x13, x14, x15, x16, 0, pc⟩)] w fun e w' => e = .returned (.tuple #[.int .u32 (sPend ⟨x0, x1, x2, x3, (bits .andNot .u32 x4 x3), x5, x6, x7, x8, x9, x10, x11, x12, x13, x14, x15, x16, 0, pc⟩).1, .bool false]) ∧ Below w.heap.size w w' := by
    intro w h
    have := pending_calls ⟨x0, x1, x2, x3, (bits .andNot .u32 x4 x3), x5, x6, x7, x8, x9, x10, x11, x12, x13, x14, x15, x16, 0, pc⟩ hr w h
    rw [e2] at this
    exact this
  generalize (sPend ⟨x0, x1, x2, x3, (bits .andNot .u32 x4 x3), x5, x6, x7, x8, x9, x10, x11, x12, x13, x14, x15, x16, 0, pc⟩).1 = r2 at p2
  have P2 := _root_.Go.Lib.hid p2
  clear p2
  have p3 : ∀ w, Tab w → Calls Tryd.prog 12 #[.agg (St.r ⟨(bits .or .u32 x0 10), x1, 0, x3, x4, x5, x6, x7, x8, x9, x10, x11, x12, x13, x14, x15, x16, 0, pc⟩)] w fun e w' => e = .returned (.tuple #[.int .u32 (sPend ⟨(bits .or .u32 x0 10), x1, 0, x3, x4, x5, x6, x7, x8, x9, x10, x11, x12, x13, x14, x15, x16, 0, pc⟩).1, .bool (!(bits .and .u32 (bits .and .u32 x4 x3) 2730 == 0))]) ∧ Below w.heap.size w w' := by
    intro w h
    have := pending_calls ⟨(bits .or .u32 x0 10), x1, 0, x3, x4, x5, x6, x7, x8, x9, x10, x11, x12, x13, x14, x15, x16, 0, pc⟩ hr w h
    rw [e3] at this
    exact this
  generalize (sPend ⟨(bits .or .u32 x0 10), x1, 0, x3, x4, x5, x6, x7, x8, x9, x10, x11, x12, x13, x14, x15, x16, 0, pc⟩).1 = r3 at p3
  have P3 := _root_.Go.Lib.hid p3
  clear p3
  clear e1 e2 e3
  have HT := _root_.Go.Lib.hid hT
  clear hT
  have k0 := (KW.start (Below.refl w.heap.size w) (Nat.le_refl _)).push (St.q ⟨x0, x1, x2, x3, x4, x5, x6, x7, x8, x9, x10, x11, x12, x13, x14, x15, x16, 0, pc⟩)
  have H0 := _root_.Go.Lib.hid k0
  clear k0
  have HR := _root_.Go.Lib.hid hr
  clear hr
  go_enter Tryd.func8, Tryd.ntmps8
  go_wp2_with fail
  refine (alive_calls _ (HT.out.below H0.out.bel HT.out.pos)).mono ?_
  rintro e w1 ⟨rfl, hb⟩
  have k := H0.out.grown hb
  clear hb H0
  have H1 := _root_.Go.Lib.hid k
  clear k
  go_wp2_with ((with_reducible apply wpList_load_at 27 Tryd.underlying27); rfl; exact H1.out.get (g := w.heap.size) (o := St.q ⟨x0, x1, x2, x3, x4, x5, x6, x7, x8, x9, x10, x11, x12, x13, x14, x15, x16, 0, pc⟩) (by simp); rfl; exact size27)
  refine (right_calls ⟨x0, x1, x2, x3, x4, x5, x6, x7, x8, x9, x10, x11, x12, x13, x14, x15, x16, 0, pc⟩ HR.out _).mono ?_
  rintro e w2 ⟨rfl, hb⟩
  have k := H1.out.grown hb
  clear hb H1
  have H2 := _root_.Go.Lib.hid k
  clear k
  go_wp2_with ((with_reducible apply wpList_load_at 27 Tryd.underlying27); rfl; exact H2.out.get (g := w.heap.size) (o := St.q ⟨x0, x1, x2, x3, x4, x5, x6, x7, x8, x9, x10, x11, x12, x13, x14, x15, x16, 0, pc⟩) (by simp); rfl; exact size27)
  refine (theirs_calls ⟨x0, x1, x2, x3, x4, x5, x6, x7, x8, x9, x10, x11, x12, x13, x14, x15, x16, 0, pc⟩ _).mono ?_
  rintro e w3 ⟨rfl, hb⟩
  have k := H2.out.grown hb
  clear hb H2
  have H3 := _root_.Go.Lib.hid k
  clear k
  have k := H3.out.push resO
  have P := _root_.Go.Lib.hid k
  clear k
  go_upto_region 6 with ((with_reducible apply wpList_store_at 32); rfl; rfl; (exact P.out.get (g := w3.heap.size) (o := resO) (by simp)); exact size32; rfl; rfl; rfl; (have h := KW.row (vs := St.r ⟨x0, x1, x2, x3, x4, x5, x6, x7, x8, x9, x10, x11, x12, x13, x14, x15, x16, 0, pc⟩) P.out); (generalize World.setRow _ (World.heap w3).size _ = w4 at h ⊢))
  generalize (World.heap w3).size = g1 at h ⊢
  clear P H3 w3
  have H4 := _root_.Go.Lib.hid h
  clear h
  have m2 : w4.cell? ⟨g1, 2, none⟩ = some (.int .u32 x2) := cell_at (H4.out.get (g := g1) (o := .cells (#[.int .u32 x0, .int .u32 x1, .int .u32 x2, .int .u32 x3, .int .u32 x4, .int .u32 x5, .int .u32 x6, .int .u32 x7, .int .u32 x8, .int .u32 x9, .int .u32 x10, .int .u32 x11, .int .u32 x12, .int .u32 x13, .int .u32 x14, .int .u32 x15, .int .u64 x16, .int .i64 0, .int .u32 pc]) 32) (by simp)) 2
  have f2 : w4.frozen? ⟨g1, 2, none⟩ = false := free_at (H4.out.get (g := g1) (o := .cells (#[.int .u32 x0, .int .u32 x1, .int .u32 x2, .int .u32 x3, .int .u32 x4, .int .u32 x5, .int .u32 x6, .int .u32 x7, .int .u32 x8, .int .u32 x9, .int .u32 x10, .int .u32 x11, .int .u32 x12, .int .u32 x13, .int .u32 x14, .int .u32 x15, .int .u64 x16, .int .i64 0, .int .u32 pc]) 32) (by simp)) 2
  go_upto_region 7 with fail
  have k := (KW.cell (i := 2) (x := .int .u32 4294967295) (vs := #[.int .u32 x0, .int .u32 x1, .int .u32 4294967295, .int .u32 x3, .int .u32 x4, .int .u32 x5, .int .u32 x6, .int .u32 x7, .int .u32 x8, .int .u32 x9, .int .u32 x10, .int .u32 x11, .int .u32 x12, .int .u32 x13, .int .u32 x14, .int .u32 x15, .int .u64 x16, .int .i64 0, .int .u32 pc]) H4.out rfl)
  generalize World.setCell _ _ _ = w5 at k ⊢
  clear m2 f2 H4
  have H5 := _root_.Go.Lib.hid k
  clear k
  go_wp2_with ((with_reducible apply wpList_load_at 32 Tryd.underlying32); rfl; exact H5.out.get (g := g1) (o := .cells (#[.int .u32 x0, .int .u32 x1, .int .u32 4294967295, .int .u32 x3, .int .u32 x4, .int .u32 x5, .int .u32 x6, .int .u32 x7, .int .u32 x8, .int .u32 x9, .int .u32 x10, .int .u32 x11, .int .u32 x12, .int .u32 x13, .int .u32 x14, .int .u32 x15, .int .u64 x16, .int .i64 0, .int .u32 pc]) 32) (by simp); rfl; exact size32)
  refine (P1.out _ (HT.out.below H5.out.bel HT.out.pos)).mono ?_
  rintro e w6 ⟨rfl, hb⟩
  have k := H5.out.grown hb
  clear hb H5
  have H6 := _root_.Go.Lib.hid k
  clear k
  have m17 : w6.cell? ⟨g1, 17, none⟩ = some (.int .i64 0) := cell_at (H6.out.get (g := g1) (o := .cells (#[.int .u32 x0, .int .u32 x1, .int .u32 4294967295, .int .u32 x3, .int .u32 x4, .int .u32 x5, .int .u32 x6, .int .u32 x7, .int .u32 x8, .int .u32 x9, .int .u32 x10, .int .u32 x11, .int .u32 x12, .int .u32 x13, .int .u32 x14, .int .u32 x15, .int .u64 x16, .int .i64 0, .int .u32 pc]) 32) (by simp)) 17
  go_wp2_with ((with_reducible apply wpList_load_at 27 Tryd.underlying27); rfl; exact H6.out.get (g := w.heap.size) (o := St.q ⟨x0, x1, x2, x3, x4, x5, x6, x7, x8, x9, x10, x11, x12, x13, x14, x15, x16, 0, pc⟩) (by simp); rfl; exact size27)
  refine (theirs_calls ⟨x0, x1, x2, x3, x4, x5, x6, x7, x8, x9, x10, x11, x12, x13, x14, x15, x16, 0, pc⟩ _).mono ?_
  rintro e w7 ⟨rfl, hb⟩
  have k := H6.out.grown hb
  clear hb H6
  have H7 := _root_.Go.Lib.hid k
  clear k
  clear m17
  go_upto_region 11 with ((with_reducible apply wpList_store_at 32); rfl; rfl; (exact H7.out.get (g := g1) (o := .cells (#[.int .u32 x0, .int .u32 x1, .int .u32 4294967295, .int .u32 x3, .int .u32 x4, .int .u32 x5, .int .u32 x6, .int .u32 x7, .int .u32 x8, .int .u32 x9, .int .u32 x10, .int .u32 x11, .int .u32 x12, .int .u32 x13, .int .u32 x14, .int .u32 x15, .int .u64 x16, .int .i64 0, .int .u32 pc]) 32) (by simp)); exact size32; rfl; rfl; rfl; (have h := KW.row (vs := St.r ⟨x0, x1, x2, x3, x4, x5, x6, x7, x8, x9, x10, x11, x12, x13, x14, x15, x16, 0, pc⟩) H7.out); (generalize World.setRow _ g1 _ = w8 at h ⊢))
  clear H7
  have H8 := _root_.Go.Lib.hid h
  clear h
  have m3 : w8.cell? ⟨g1, 3, none⟩ = some (.int .u32 x3) := cell_at (H8.out.get (g := g1) (o := .cells (#[.int .u32 x0, .int .u32 x1, .int .u32 x2, .int .u32 x3, .int .u32 x4, .int .u32 x5, .int .u32 x6, .int .u32 x7, .int .u32 x8, .int .u32 x9, .int .u32 x10, .int .u32 x11, .int .u32 x12, .int .u32 x13, .int .u32 x14, .int .u32 x15, .int .u64 x16, .int .i64 0, .int .u32 pc]) 32) (by simp)) 3
  have m4 : w8.cell? ⟨g1, 4, none⟩ = some (.int .u32 x4) := cell_at (H8.out.get (g := g1) (o := .cells (#[.int .u32 x0, .int .u32 x1, .int .u32 x2, .int .u32 x3, .int .u32 x4, .int .u32 x5, .int .u32 x6, .int .u32 x7, .int .u32 x8, .int .u32 x9, .int .u32 x10, .int .u32 x11, .int .u32 x12, .int .u32 x13, .int .u32 x14, .int .u32 x15, .int .u64 x16, .int .i64 0, .int .u32 pc]) 32) (by simp)) 4
  have f4 : w8.frozen? ⟨g1, 4, none⟩ = false := free_at (H8.out.get (g := g1) (o := .cells (#[.int .u32 x0, .int .u32 x1, .int .u32 x2, .int .u32 x3, .int .u32 x4, .int .u32 x5, .int .u32 x6, .int .u32 x7, .int .u32 x8, .int .u32 x9, .int .u32 x10, .int .u32 x11, .int .u32 x12, .int .u32 x13, .int .u32 x14, .int .u32 x15, .int .u64 x16, .int .i64 0, .int .u32 pc]) 32) (by simp)) 4
  go_upto_region 12 with fail
  have k := (KW.cell (i := 4) (x := .int .u32 (bits .andNot .u32 x4 x3)) (vs := #[.int .u32 x0, .int .u32 x1, .int .u32 x2, .int .u32 x3, .int .u32 (bits .andNot .u32 x4 x3), .int .u32 x5, .int .u32 x6, .int .u32 x7, .int .u32 x8, .int .u32 x9, .int .u32 x10, .int .u32 x11, .int .u32 x12, .int .u32 x13, .int .u32 x14, .int .u32 x15, .int .u64 x16, .int .i64 0, .int .u32 pc]) H8.out rfl)
  generalize World.setCell _ _ _ = w9 at k ⊢
  clear m3 m4 f4 H8
  have H9 := _root_.Go.Lib.hid k
  clear k
  go_wp2_with ((with_reducible apply wpList_load_at 32 Tryd.underlying32); rfl; exact H9.out.get (g := g1) (o := .cells (#[.int .u32 x0, .int .u32 x1, .int .u32 x2, .int .u32 x3, .int .u32 (bits .andNot .u32 x4 x3), .int .u32 x5, .int .u32 x6, .int .u32 x7, .int .u32 x8, .int .u32 x9, .int .u32 x10, .int .u32 x11, .int .u32 x12, .int .u32 x13, .int .u32 x14, .int .u32 x15, .int .u64 x16, .int .i64 0, .int .u32 pc]) 32) (by simp); rfl; exact size32)
  refine (P2.out _ (HT.out.below H9.out.bel HT.out.pos)).mono ?_
  rintro e w10 ⟨rfl, hb⟩
  have k := H9.out.grown hb
  clear hb H9
  have H10 := _root_.Go.Lib.hid k
  clear k
  go_wp2_with ((with_reducible apply wpList_load_at 27 Tryd.underlying27); rfl; exact H10.out.get (g := w.heap.size) (o := St.q ⟨x0, x1, x2, x3, x4, x5, x6, x7, x8, x9, x10, x11, x12, x13, x14, x15, x16, 0, pc⟩) (by simp); rfl; exact size27)
  refine (theirs_calls ⟨x0, x1, x2, x3, x4, x5, x6, x7, x8, x9, x10, x11, x12, x13, x14, x15, x16, 0, pc⟩ _).mono ?_
  rintro e w11 ⟨rfl, hb⟩
  have k := H10.out.grown hb
  clear hb H10
  have H11 := _root_.Go.Lib.hid k
  clear k
  go_upto_region 14 with ((with_reducible apply wpList_store_at 32); rfl; rfl; (exact H11.out.get (g := g1) (o := .cells (#[.int .u32 x0, .int .u32 x1, .int .u32 x2, .int .u32 x3, .int .u32 (bits .andNot .u32 x4 x3), .int .u32 x5, .int .u32 x6, .int .u32 x7, .int .u32 x8, .int .u32 x9, .int .u32 x10, .int .u32 x11, .int .u32 x12, .int .u32 x13, .int .u32 x14, .int .u32 x15, .int .u64 x16, .int .i64 0, .int .u32 pc]) 32) (by simp)); exact size32; rfl; rfl; rfl; (have h := KW.row (vs := St.r ⟨x0, x1, x2, x3, x4, x5, x6, x7, x8, x9, x10, x11, x12, x13, x14, x15, x16, 0, pc⟩) H11.out); (generalize World.setRow _ g1 _ = w12 at h ⊢))
  clear H11
  have H12 := _root_.Go.Lib.hid h
  clear h
  have m0 : w12.cell? ⟨g1, 0, none⟩ = some (.int .u32 x0) := cell_at (H12.out.get (g := g1) (o := .cells (#[.int .u32 x0, .int .u32 x1, .int .u32 x2, .int .u32 x3, .int .u32 x4, .int .u32 x5, .int .u32 x6, .int .u32 x7, .int .u32 x8, .int .u32 x9, .int .u32 x10, .int .u32 x11, .int .u32 x12, .int .u32 x13, .int .u32 x14, .int .u32 x15, .int .u64 x16, .int .i64 0, .int .u32 pc]) 32) (by simp)) 0
  have m2 : w12.cell? ⟨g1, 2, none⟩ = some (.int .u32 x2) := cell_at (H12.out.get (g := g1) (o := .cells (#[.int .u32 x0, .int .u32 x1, .int .u32 x2, .int .u32 x3, .int .u32 x4, .int .u32 x5, .int .u32 x6, .int .u32 x7, .int .u32 x8, .int .u32 x9, .int .u32 x10, .int .u32 x11, .int .u32 x12, .int .u32 x13, .int .u32 x14, .int .u32 x15, .int .u64 x16, .int .i64 0, .int .u32 pc]) 32) (by simp)) 2
  have f0 : w12.frozen? ⟨g1, 0, none⟩ = false := free_at (H12.out.get (g := g1) (o := .cells (#[.int .u32 x0, .int .u32 x1, .int .u32 x2, .int .u32 x3, .int .u32 x4, .int .u32 x5, .int .u32 x6, .int .u32 x7, .int .u32 x8, .int .u32 x9, .int .u32 x10, .int .u32 x11, .int .u32 x12, .int .u32 x13, .int .u32 x14, .int .u32 x15, .int .u64 x16, .int .i64 0, .int .u32 pc]) 32) (by simp)) 0
  have f2 : w12.frozen? ⟨g1, 2, none⟩ = false := free_at (H12.out.get (g := g1) (o := .cells (#[.int .u32 x0, .int .u32 x1, .int .u32 x2, .int .u32 x3, .int .u32 x4, .int .u32 x5, .int .u32 x6, .int .u32 x7, .int .u32 x8, .int .u32 x9, .int .u32 x10, .int .u32 x11, .int .u32 x12, .int .u32 x13, .int .u32 x14, .int .u32 x15, .int .u64 x16, .int .i64 0, .int .u32 pc]) 32) (by simp)) 2
  go_upto_region 16 with fail
  have k := (KW.cell (i := 2) (x := .int .u32 0) (vs := #[.int .u32 (bits .or .u32 x0 10), .int .u32 x1, .int .u32 0, .int .u32 x3, .int .u32 x4, .int .u32 x5, .int .u32 x6, .int .u32 x7, .int .u32 x8, .int .u32 x9, .int .u32 x10, .int .u32 x11, .int .u32 x12, .int .u32 x13, .int .u32 x14, .int .u32 x15, .int .u64 x16, .int .i64 0, .int .u32 pc]) (KW.cell (i := 0) (x := .int .u32 (bits .or .u32 x0 10)) (vs := #[.int .u32 (bits .or .u32 x0 10), .int .u32 x1, .int .u32 x2, .int .u32 x3, .int .u32 x4, .int .u32 x5, .int .u32 x6, .int .u32 x7, .int .u32 x8, .int .u32 x9, .int .u32 x10, .int .u32 x11, .int .u32 x12, .int .u32 x13, .int .u32 x14, .int .u32 x15, .int .u64 x16, .int .i64 0, .int .u32 pc]) H12.out rfl) rfl)
  generalize World.setCell _ _ _ = w13 at k ⊢
  clear m0 m2 f0 f2 H12
  have H13 := _root_.Go.Lib.hid k
  clear k
  go_wp2_with ((with_reducible apply wpList_load_at 32 Tryd.underlying32); rfl; exact H13.out.get (g := g1) (o := .cells (#[.int .u32 (bits .or .u32 x0 10), .int .u32 x1, .int .u32 0, .int .u32 x3, .int .u32 x4, .int .u32 x5, .int .u32 x6, .int .u32 x7, .int .u32 x8, .int .u32 x9, .int .u32 x10, .int .u32 x11, .int .u32 x12, .int .u32 x13, .int .u32 x14, .int .u32 x15, .int .u64 x16, .int .i64 0, .int .u32 pc]) 32) (by simp); rfl; exact size32)
  refine (P3.out _ (HT.out.below H13.out.bel HT.out.pos)).mono ?_
  rintro e w14 ⟨rfl, hb⟩
  have k := H13.out.grown hb
  clear hb H13
  have H14 := _root_.Go.Lib.hid k
  clear k
  have m3 : w14.cell? ⟨g1, 3, none⟩ = some (.int .u32 x3) := cell_at (H14.out.get (g := g1) (o := .cells (#[.int .u32 (bits .or .u32 x0 10), .int .u32 x1, .int .u32 0, .int .u32 x3, .int .u32 x4, .int .u32 x5, .int .u32 x6, .int .u32 x7, .int .u32 x8, .int .u32 x9, .int .u32 x10, .int .u32 x11, .int .u32 x12, .int .u32 x13, .int .u32 x14, .int .u32 x15, .int .u64 x16, .int .i64 0, .int .u32 pc]) 32) (by simp)) 3
  have m4 : w14.cell? ⟨g1, 4, none⟩ = some (.int .u32 x4) := cell_at (H14.out.get (g := g1) (o := .cells (#[.int .u32 (bits .or .u32 x0 10), .int .u32 x1, .int .u32 0, .int .u32 x3, .int .u32 x4, .int .u32 x5, .int .u32 x6, .int .u32 x7, .int .u32 x8, .int .u32 x9, .int .u32 x10, .int .u32 x11, .int .u32 x12, .int .u32 x13, .int .u32 x14, .int .u32 x15, .int .u64 x16, .int .i64 0, .int .u32 pc]) 32) (by simp)) 4
  go_wp2
  go_ret
  exact ⟨by first | rfl | simp [bne], H14.out.bel⟩
set_option maxRecDepth 100000 in
set_option maxHeartbeats 1600000 in
theorem tlines_1t (s : St) (hr : Right s) (hp : s.p = 1) (hi : (sPend { s with x2 := 4294967295 }).2 = true) (w : World) (hT : Tab w) : Calls Tryd.prog 8 #[.agg s.r] w fun e w' => e = .returned (.bool true) ∧ Below w.heap.size w w' := by
  obtain ⟨x0, x1, x2, x3, x4, x5, x6, x7, x8, x9, x10, x11, x12, x13, x14, x15, x16, p, pc⟩ := s
  obtain rfl : p = 1 := hp
  have e1 : (sPend ⟨x0, x1, 4294967295, x3, x4, x5, x6, x7, x8, x9, x10, x11, x12, x13, x14, x15, x16, 1, pc⟩).2 = true := hi
  have e2 : (sPend ⟨x0, x1, x2, x3, (bits .andNot .u32 x4 x3), x5, x6, x7, x8, x9, x10, x11, x12, x13, x14, x15, x16, 1, pc⟩).2 = false := lines_2 ⟨x0, x1, x2, x3, x4, x5, x6, x7, x8, x9, x10, x11, x12, x13, x14, x15, x16, 1, pc⟩
  have e3 := lines_3 ⟨x0, x1, x2, x3, x4, x5, x6, x7, x8, x9, x10, x11, x12, x13, x14, x15, x16, 1, pc⟩ hr
  clear hi
  have p1 : ∀ w, Tab w → Calls Tryd.prog 12 #[.agg (St.r ⟨x0, x1, 4294967295, x3, x4, x5, x6, x7, x8, x9, x10, x11, x12, x13, x14, x15, x16, 1, pc⟩)] w fun e w' => e = .returned (.tuple #[.int .u32 (sPend ⟨x0, x1, 4294967295, x3, x4, x5, x6, x7, x8, x9, x10, x11, x12, x13, x14, x15, x16, 1, pc⟩).1, .bool true]) ∧ Below w.heap.size w w' := by
    intro w h
    have := pending_calls ⟨x0, x1, 4294967295, x3, x4, x5, x6, x7, x8, x9, x10, x11, x12, x13, x14, x15, x16, 1, pc⟩ hr w h
    rw [e1] at this
    exact this
  generalize (sPend ⟨x0, x1, 4294967295, x3, x4, x5, x6, x7, x8, x9, x10, x11, x12, x13, x14, x15, x16, 1, pc⟩).1 = r1 at p1
  have P1 := _root_.Go.Lib.hid p1
  clear p1
  have p2 : ∀ w, Tab w → Calls Tryd.prog 12 #[.agg (St.r ⟨x0, x1, x2, x3, (bits .andNot .u32 x4 x3), x5, x6, x7, x8, x9, x10, x11, x12, x13, x14, x15, x16, 1, pc⟩)] w fun e w' => e = .returned (.tuple #[.int .u32 (sPend ⟨x0, x1, x2, x3, (bits .andNot .u32 x4 x3), x5, x6, x7, x8, x9, x10, x11, x12, x13, x14, x15, x16, 1, pc⟩).1, .bool false]) ∧ Below w.heap.size w w' := by
    intro w h
    have := pending_calls ⟨x0, x1, x2, x3, (bits .andNot .u32 x4 x3), x5, x6, x7, x8, x9, x10, x11, x12, x13, x14, x15, x16, 1, pc⟩ hr w h
    rw [e2] at this
    exact this
  generalize (sPend ⟨x0, x1, x2, x3, (bits .andNot .u32 x4 x3), x5, x6, x7, x8, x9, x10, x11, x12, x13, x14, x15, x16, 1, pc⟩).1 = r2 at p2
  have P2 := _root_.Go.Lib.hid p2
  clear p2
  have p3 : ∀ w, Tab w → Calls Tryd.prog 12 #[.agg (St.r ⟨(bits .or .u32 x0 10), x1, 0, x3, x4, x5, x6, x7, x8, x9, x10, x11, x12, x13, x14, x15, x16, 1, pc⟩)] w fun e w' => e = .returned (.tuple #[.int .u32 (sPend ⟨(bits .or .u32 x0 10), x1, 0, x3, x4, x5, x6, x7, x8, x9, x10, x11, x12, x13, x14, x15, x16, 1, pc⟩).1, .bool (!(bits .and .u32 (bits .and .u32 x4 x3) 2730 == 0))]) ∧ Below w.heap.size w w' := by
    intro w h
    have := pending_calls ⟨(bits .or .u32 x0 10), x1, 0, x3, x4, x5, x6, x7, x8, x9, x10, x11, x12, x13, x14, x15, x16, 1, pc⟩ hr w h
    rw [e3] at this
    exact this
  generalize (sPend ⟨(bits .or .u32 x0 10), x1, 0, x3, x4, x5, x6, x7, x8, x9, x10, x11, x12, x13, x14, x15, x16, 1, pc⟩).1 = r3 at p3
  have P3 := _root_.Go.Lib.hid p3
  clear p3
  clear e1 e2 e3
  have HT := _root_.Go.Lib.hid hT
  clear hT
  have k0 := (KW.start (Below.refl w.heap.size w) (Nat.le_refl _)).push (St.q ⟨x0, x1, x2, x3, x4, x5, x6, x7, x8, x9, x10, x11, x12, x13, x14, x15, x16, 1, pc⟩)
  have H0 := _root_.Go.Lib.hid k0
  clear k0
  have HR := _root_.Go.Lib.hid hr
  clear hr
  go_enter Tryd.func8, Tryd.ntmps8
  go_wp2_with fail
  refine (alive_calls _ (HT.out.below H0.out.bel HT.out.pos)).mono ?_
  rintro e w1 ⟨rfl, hb⟩
  have k := H0.out.grown hb
  clear hb H0
  have H1 := _root_.Go.Lib.hid k
  clear k
  go_wp2_with ((with_reducible apply wpList_load_at 27 Tryd.underlying27); rfl; exact H1.out.get (g := w.heap.size) (o := St.q ⟨x0, x1, x2, x3, x4, x5, x6, x7, x8, x9, x10, x11, x12, x13, x14, x15, x16, 1, pc⟩) (by simp); rfl; exact size27)
  refine (right_calls ⟨x0, x1, x2, x3, x4, x5, x6, x7, x8, x9, x10, x11, x12, x13, x14, x15, x16, 1, pc⟩ HR.out _).mono ?_
  rintro e w2 ⟨rfl, hb⟩
  have k := H1.out.grown hb
  clear hb H1
  have H2 := _root_.Go.Lib.hid k
  clear k
  go_wp2_with ((with_reducible apply wpList_load_at 27 Tryd.underlying27); rfl; exact H2.out.get (g := w.heap.size) (o := St.q ⟨x0, x1, x2, x3, x4, x5, x6, x7, x8, x9, x10, x11, x12, x13, x14, x15, x16, 1, pc⟩) (by simp); rfl; exact size27)
  refine (theirs_calls ⟨x0, x1, x2, x3, x4, x5, x6, x7, x8, x9, x10, x11, x12, x13, x14, x15, x16, 1, pc⟩ _).mono ?_
  rintro e w3 ⟨rfl, hb⟩
  have k := H2.out.grown hb
  clear hb H2
  have H3 := _root_.Go.Lib.hid k
  clear k
  have k := H3.out.push resO
  have P := _root_.Go.Lib.hid k
  clear k
  go_upto_region 6 with ((with_reducible apply wpList_store_at 32); rfl; rfl; (exact P.out.get (g := w3.heap.size) (o := resO) (by simp)); exact size32; rfl; rfl; rfl; (have h := KW.row (vs := St.r ⟨x0, x1, x2, x3, x4, x5, x6, x7, x8, x9, x10, x11, x12, x13, x14, x15, x16, 1, pc⟩) P.out); (generalize World.setRow _ (World.heap w3).size _ = w4 at h ⊢))
  generalize (World.heap w3).size = g1 at h ⊢
  clear P H3 w3
  have H4 := _root_.Go.Lib.hid h
  clear h
  have m2 : w4.cell? ⟨g1, 2, none⟩ = some (.int .u32 x2) := cell_at (H4.out.get (g := g1) (o := .cells (#[.int .u32 x0, .int .u32 x1, .int .u32 x2, .int .u32 x3, .int .u32 x4, .int .u32 x5, .int .u32 x6, .int .u32 x7, .int .u32 x8, .int .u32 x9, .int .u32 x10, .int .u32 x11, .int .u32 x12, .int .u32 x13, .int .u32 x14, .int .u32 x15, .int .u64 x16, .int .i64 1, .int .u32 pc]) 32) (by simp)) 2
  have f2 : w4.frozen? ⟨g1, 2, none⟩ = false := free_at (H4.out.get (g := g1) (o := .cells (#[.int .u32 x0, .int .u32 x1, .int .u32 x2, .int .u32 x3, .int .u32 x4, .int .u32 x5, .int .u32 x6, .int .u32 x7, .int .u32 x8, .int .u32 x9, .int .u32 x10, .int .u32 x11, .int .u32 x12, .int .u32 x13, .int .u32 x14, .int .u32 x15, .int .u64 x16, .int .i64 1, .int .u32 pc]) 32) (by simp)) 2
  go_upto_region 7 with fail
  have k := (KW.cell (i := 2) (x := .int .u32 4294967295) (vs := #[.int .u32 x0, .int .u32 x1, .int .u32 4294967295, .int .u32 x3, .int .u32 x4, .int .u32 x5, .int .u32 x6, .int .u32 x7, .int .u32 x8, .int .u32 x9, .int .u32 x10, .int .u32 x11, .int .u32 x12, .int .u32 x13, .int .u32 x14, .int .u32 x15, .int .u64 x16, .int .i64 1, .int .u32 pc]) H4.out rfl)
  generalize World.setCell _ _ _ = w5 at k ⊢
  clear m2 f2 H4
  have H5 := _root_.Go.Lib.hid k
  clear k
  go_wp2_with ((with_reducible apply wpList_load_at 32 Tryd.underlying32); rfl; exact H5.out.get (g := g1) (o := .cells (#[.int .u32 x0, .int .u32 x1, .int .u32 4294967295, .int .u32 x3, .int .u32 x4, .int .u32 x5, .int .u32 x6, .int .u32 x7, .int .u32 x8, .int .u32 x9, .int .u32 x10, .int .u32 x11, .int .u32 x12, .int .u32 x13, .int .u32 x14, .int .u32 x15, .int .u64 x16, .int .i64 1, .int .u32 pc]) 32) (by simp); rfl; exact size32)
  refine (P1.out _ (HT.out.below H5.out.bel HT.out.pos)).mono ?_
  rintro e w6 ⟨rfl, hb⟩
  have k := H5.out.grown hb
  clear hb H5
  have H6 := _root_.Go.Lib.hid k
  clear k
  have m17 : w6.cell? ⟨g1, 17, none⟩ = some (.int .i64 1) := cell_at (H6.out.get (g := g1) (o := .cells (#[.int .u32 x0, .int .u32 x1, .int .u32 4294967295, .int .u32 x3, .int .u32 x4, .int .u32 x5, .int .u32 x6, .int .u32 x7, .int .u32 x8, .int .u32 x9, .int .u32 x10, .int .u32 x11, .int .u32 x12, .int .u32 x13, .int .u32 x14, .int .u32 x15, .int .u64 x16, .int .i64 1, .int .u32 pc]) 32) (by simp)) 17
  go_wp2_with ((with_reducible apply wpList_load_at 27 Tryd.underlying27); rfl; exact H6.out.get (g := w.heap.size) (o := St.q ⟨x0, x1, x2, x3, x4, x5, x6, x7, x8, x9, x10, x11, x12, x13, x14, x15, x16, 1, pc⟩) (by simp); rfl; exact size27)
  refine (theirs_calls ⟨x0, x1, x2, x3, x4, x5, x6, x7, x8, x9, x10, x11, x12, x13, x14, x15, x16, 1, pc⟩ _).mono ?_
  rintro e w7 ⟨rfl, hb⟩
  have k := H6.out.grown hb
  clear hb H6
  have H7 := _root_.Go.Lib.hid k
  clear k
  clear m17
  go_upto_region 11 with ((with_reducible apply wpList_store_at 32); rfl; rfl; (exact H7.out.get (g := g1) (o := .cells (#[.int .u32 x0, .int .u32 x1, .int .u32 4294967295, .int .u32 x3, .int .u32 x4, .int .u32 x5, .int .u32 x6, .int .u32 x7, .int .u32 x8, .int .u32 x9, .int .u32 x10, .int .u32 x11, .int .u32 x12, .int .u32 x13, .int .u32 x14, .int .u32 x15, .int .u64 x16, .int .i64 1, .int .u32 pc]) 32) (by simp)); exact size32; rfl; rfl; rfl; (have h := KW.row (vs := St.r ⟨x0, x1, x2, x3, x4, x5, x6, x7, x8, x9, x10, x11, x12, x13, x14, x15, x16, 1, pc⟩) H7.out); (generalize World.setRow _ g1 _ = w8 at h ⊢))
  clear H7
  have H8 := _root_.Go.Lib.hid h
  clear h
  have m3 : w8.cell? ⟨g1, 3, none⟩ = some (.int .u32 x3) := cell_at (H8.out.get (g := g1) (o := .cells (#[.int .u32 x0, .int .u32 x1, .int .u32 x2, .int .u32 x3, .int .u32 x4, .int .u32 x5, .int .u32 x6, .int .u32 x7, .int .u32 x8, .int .u32 x9, .int .u32 x10, .int .u32 x11, .int .u32 x12, .int .u32 x13, .int .u32 x14, .int .u32 x15, .int .u64 x16, .int .i64 1, .int .u32 pc]) 32) (by simp)) 3
  have m4 : w8.cell? ⟨g1, 4, none⟩ = some (.int .u32 x4) := cell_at (H8.out.get (g := g1) (o := .cells (#[.int .u32 x0, .int .u32 x1, .int .u32 x2, .int .u32 x3, .int .u32 x4, .int .u32 x5, .int .u32 x6, .int .u32 x7, .int .u32 x8, .int .u32 x9, .int .u32 x10, .int .u32 x11, .int .u32 x12, .int .u32 x13, .int .u32 x14, .int .u32 x15, .int .u64 x16, .int .i64 1, .int .u32 pc]) 32) (by simp)) 4
  have f4 : w8.frozen? ⟨g1, 4, none⟩ = false := free_at (H8.out.get (g := g1) (o := .cells (#[.int .u32 x0, .int .u32 x1, .int .u32 x2, .int .u32 x3, .int .u32 x4, .int .u32 x5, .int .u32 x6, .int .u32 x7, .int .u32 x8, .int .u32 x9, .int .u32 x10, .int .u32 x11, .int .u32 x12, .int .u32 x13, .int .u32 x14, .int .u32 x15, .int .u64 x16, .int .i64 1, .int .u32 pc]) 32) (by simp)) 4
  go_upto_region 12 with fail
  have k := (KW.cell (i := 4) (x := .int .u32 (bits .andNot .u32 x4 x3)) (vs := #[.int .u32 x0, .int .u32 x1, .int .u32 x2, .int .u32 x3, .int .u32 (bits .andNot .u32 x4 x3), .int .u32 x5, .int .u32 x6, .int .u32 x7, .int .u32 x8, .int .u32 x9, .int .u32 x10, .int .u32 x11, .int .u32 x12, .int .u32 x13, .int .u32 x14, .int .u32 x15, .int .u64 x16, .int .i64 1, .int .u32 pc]) H8.out rfl)
  generalize World.setCell _ _ _ = w9 at k ⊢
  clear m3 m4 f4 H8
  have H9 := _root_.Go.Lib.hid k
  clear k
  go_wp2_with ((with_reducible apply wpList_load_at 32 Tryd.underlying32); rfl; exact H9.out.get (g := g1) (o := .cells (#[.int .u32 x0, .int .u32 x1, .int .u32 x2, .int .u32 x3, .int .u32 (bits .andNot .u32 x4 x3), .int .u32 x5, .int .u32 x6, .int .u32 x7, .int .u32 x8, .int .u32 x9, .int .u32 x10, .int .u32 x11, .int .u32 x12, .int .u32 x13, .int .u32 x14, .int .u32 x15, .int .u64 x16, .int .i64 1, .int .u32 pc]) 32) (by simp); rfl; exact size32)
  refine (P2.out _ (HT.out.below H9.out.bel HT.out.pos)).mono ?_
  rintro e w10 ⟨rfl, hb⟩
  have k := H9.out.grown hb
  clear hb H9
  have H10 := _root_.Go.Lib.hid k
  clear k
  go_wp2_with ((with_reducible apply wpList_load_at 27 Tryd.underlying27); rfl; exact H10.out.get (g := w.heap.size) (o := St.q ⟨x0, x1, x2, x3, x4, x5, x6, x7, x8, x9, x10, x11, x12, x13, x14, x15, x16, 1, pc⟩) (by simp); rfl; exact size27)
  refine (theirs_calls ⟨x0, x1, x2, x3, x4, x5, x6, x7, x8, x9, x10, x11, x12, x13, x14, x15, x16, 1, pc⟩ _).mono ?_
  rintro e w11 ⟨rfl, hb⟩
  have k := H10.out.grown hb
  clear hb H10
  have H11 := _root_.Go.Lib.hid k
  clear k
  go_upto_region 14 with ((with_reducible apply wpList_store_at 32); rfl; rfl; (exact H11.out.get (g := g1) (o := .cells (#[.int .u32 x0, .int .u32 x1, .int .u32 x2, .int .u32 x3, .int .u32 (bits .andNot .u32 x4 x3), .int .u32 x5, .int .u32 x6, .int .u32 x7, .int .u32 x8, .int .u32 x9, .int .u32 x10, .int .u32 x11, .int .u32 x12, .int .u32 x13, .int .u32 x14, .int .u32 x15, .int .u64 x16, .int .i64 1, .int .u32 pc]) 32) (by simp)); exact size32; rfl; rfl; rfl; (have h := KW.row (vs := St.r ⟨x0, x1, x2, x3, x4, x5, x6, x7, x8, x9, x10, x11, x12, x13, x14, x15, x16, 1, pc⟩) H11.out); (generalize World.setRow _ g1 _ = w12 at h ⊢))
  clear H11
  have H12 := _root_.Go.Lib.hid h
  clear h
  have m0 : w12.cell? ⟨g1, 0, none⟩ = some (.int .u32 x0) := cell_at (H12.out.get (g := g1) (o := .cells (#[.int .u32 x0, .int .u32 x1, .int .u32 x2, .int .u32 x3, .int .u32 x4, .int .u32 x5, .int .u32 x6, .int .u32 x7, .int .u32 x8, .int .u32 x9, .int .u32 x10, .int .u32 x11, .int .u32 x12, .int .u32 x13, .int .u32 x14, .int .u32 x15, .int .u64 x16, .int .i64 1, .int .u32 pc]) 32) (by simp)) 0
  have m2 : w12.cell? ⟨g1, 2, none⟩ = some (.int .u32 x2) := cell_at (H12.out.get (g := g1) (o := .cells (#[.int .u32 x0, .int .u32 x1, .int .u32 x2, .int .u32 x3, .int .u32 x4, .int .u32 x5, .int .u32 x6, .int .u32 x7, .int .u32 x8, .int .u32 x9, .int .u32 x10, .int .u32 x11, .int .u32 x12, .int .u32 x13, .int .u32 x14, .int .u32 x15, .int .u64 x16, .int .i64 1, .int .u32 pc]) 32) (by simp)) 2
  have f0 : w12.frozen? ⟨g1, 0, none⟩ = false := free_at (H12.out.get (g := g1) (o := .cells (#[.int .u32 x0, .int .u32 x1, .int .u32 x2, .int .u32 x3, .int .u32 x4, .int .u32 x5, .int .u32 x6, .int .u32 x7, .int .u32 x8, .int .u32 x9, .int .u32 x10, .int .u32 x11, .int .u32 x12, .int .u32 x13, .int .u32 x14, .int .u32 x15, .int .u64 x16, .int .i64 1, .int .u32 pc]) 32) (by simp)) 0
  have f2 : w12.frozen? ⟨g1, 2, none⟩ = false := free_at (H12.out.get (g := g1) (o := .cells (#[.int .u32 x0, .int .u32 x1, .int .u32 x2, .int .u32 x3, .int .u32 x4, .int .u32 x5, .int .u32 x6, .int .u32 x7, .int .u32 x8, .int .u32 x9, .int .u32 x10, .int .u32 x11, .int .u32 x12, .int .u32 x13, .int .u32 x14, .int .u32 x15, .int .u64 x16, .int .i64 1, .int .u32 pc]) 32) (by simp)) 2
  go_upto_region 16 with fail
  have k := (KW.cell (i := 2) (x := .int .u32 0) (vs := #[.int .u32 (bits .or .u32 x0 10), .int .u32 x1, .int .u32 0, .int .u32 x3, .int .u32 x4, .int .u32 x5, .int .u32 x6, .int .u32 x7, .int .u32 x8, .int .u32 x9, .int .u32 x10, .int .u32 x11, .int .u32 x12, .int .u32 x13, .int .u32 x14, .int .u32 x15, .int .u64 x16, .int .i64 1, .int .u32 pc]) (KW.cell (i := 0) (x := .int .u32 (bits .or .u32 x0 10)) (vs := #[.int .u32 (bits .or .u32 x0 10), .int .u32 x1, .int .u32 x2, .int .u32 x3, .int .u32 x4, .int .u32 x5, .int .u32 x6, .int .u32 x7, .int .u32 x8, .int .u32 x9, .int .u32 x10, .int .u32 x11, .int .u32 x12, .int .u32 x13, .int .u32 x14, .int .u32 x15, .int .u64 x16, .int .i64 1, .int .u32 pc]) H12.out rfl) rfl)
  generalize World.setCell _ _ _ = w13 at k ⊢
  clear m0 m2 f0 f2 H12
  have H13 := _root_.Go.Lib.hid k
  clear k
  go_wp2_with ((with_reducible apply wpList_load_at 32 Tryd.underlying32); rfl; exact H13.out.get (g := g1) (o := .cells (#[.int .u32 (bits .or .u32 x0 10), .int .u32 x1, .int .u32 0, .int .u32 x3, .int .u32 x4, .int .u32 x5, .int .u32 x6, .int .u32 x7, .int .u32 x8, .int .u32 x9, .int .u32 x10, .int .u32 x11, .int .u32 x12, .int .u32 x13, .int .u32 x14, .int .u32 x15, .int .u64 x16, .int .i64 1, .int .u32 pc]) 32) (by simp); rfl; exact size32)
  refine (P3.out _ (HT.out.below H13.out.bel HT.out.pos)).mono ?_
  rintro e w14 ⟨rfl, hb⟩
  have k := H13.out.grown hb
  clear hb H13
  have H14 := _root_.Go.Lib.hid k
  clear k
  have m3 : w14.cell? ⟨g1, 3, none⟩ = some (.int .u32 x3) := cell_at (H14.out.get (g := g1) (o := .cells (#[.int .u32 (bits .or .u32 x0 10), .int .u32 x1, .int .u32 0, .int .u32 x3, .int .u32 x4, .int .u32 x5, .int .u32 x6, .int .u32 x7, .int .u32 x8, .int .u32 x9, .int .u32 x10, .int .u32 x11, .int .u32 x12, .int .u32 x13, .int .u32 x14, .int .u32 x15, .int .u64 x16, .int .i64 1, .int .u32 pc]) 32) (by simp)) 3
  have m4 : w14.cell? ⟨g1, 4, none⟩ = some (.int .u32 x4) := cell_at (H14.out.get (g := g1) (o := .cells (#[.int .u32 (bits .or .u32 x0 10), .int .u32 x1, .int .u32 0, .int .u32 x3, .int .u32 x4, .int .u32 x5, .int .u32 x6, .int .u32 x7, .int .u32 x8, .int .u32 x9, .int .u32 x10, .int .u32 x11, .int .u32 x12, .int .u32 x13, .int .u32 x14, .int .u32 x15, .int .u64 x16, .int .i64 1, .int .u32 pc]) 32) (by simp)) 4
  go_wp2
  go_ret
  exact ⟨by first | rfl | simp [bne], H14.out.bel⟩
set_option maxRecDepth 100000 in
set_option maxHeartbeats 1600000 in
theorem tlines_1f (s : St) (hr : Right s) (hp : s.p = 1) (hi : (sPend { s with x2 := 4294967295 }).2 = false) (w : World) (hT : Tab w) : Calls Tryd.prog 8 #[.agg s.r] w fun e w' => e = .returned (.bool true) ∧ Below w.heap.size w w' := by
  obtain ⟨x0, x1, x2, x3, x4, x5, x6, x7, x8, x9, x10, x11, x12, x13, x14, x15, x16, p, pc⟩ := s
  obtain rfl : p = 1 := hp
  have e1 : (sPend ⟨x0, x1, 4294967295, x3, x4, x5, x6, x7, x8, x9, x10, x11, x12, x13, x14, x15, x16, 1, pc⟩).2 = false := hi
  have e2 : (sPend ⟨x0, x1, x2, x3, (bits .andNot .u32 x4 x3), x5, x6, x7, x8, x9, x10, x11, x12, x13, x14, x15, x16, 1, pc⟩).2 = false := lines_2 ⟨x0, x1, x2, x3, x4, x5, x6, x7, x8, x9, x10, x11, x12, x13, x14, x15, x16, 1, pc⟩
  have e3 := lines_3 ⟨x0, x1, x2, x3, x4, x5, x6, x7, x8, x9, x10, x11, x12, x13, x14, x15, x16, 1, pc⟩ hr
  clear hi
  have p1 : ∀ w, Tab w → Calls Tryd.prog 12 #[.agg (St.r ⟨x0, x1, 4294967295, x3, x4, x5, x6, x7, x8, x9, x10, x11, x12, x13, x14, x15, x16, 1, pc⟩)] w fun e w' => e = .returned (.tuple #[.int .u32 (sPend ⟨x0, x1, 4294967295, x3, x4, x5, x6, x7, x8, x9, x10, x11, x12, x13, x14, x15, x16, 1, pc⟩).1, .bool false]) ∧ Below w.heap.size w w' := by
    intro w h
    have := pending_calls ⟨x0, x1, 4294967295, x3, x4, x5, x6, x7, x8, x9, x10, x11, x12, x13, x14, x15, x16, 1, pc⟩ hr w h
    rw [e1] at this
    exact this
  generalize (sPend ⟨x0, x1, 4294967295, x3, x4, x5, x6, x7, x8, x9, x10, x11, x12, x13, x14, x15, x16, 1, pc⟩).1 = r1 at p1
  have P1 := _root_.Go.Lib.hid p1
  clear p1
  have p2 : ∀ w, Tab w → Calls Tryd.prog 12 #[.agg (St.r ⟨x0, x1, x2, x3, (bits .andNot .u32 x4 x3), x5, x6, x7, x8, x9, x10, x11, x12, x13, x14, x15, x16, 1, pc⟩)] w fun e w' => e = .returned (.tuple #[.int .u32 (sPend ⟨x0, x1, x2, x3, (bits .andNot .u32 x4 x3), x5, x6, x7, x8, x9, x10, x11, x12, x13, x14, x15, x16, 1, pc⟩).1, .bool false]) ∧ Below w.heap.size w w' := by
    intro w h
    have := pending_calls ⟨x0, x1, x2, x3, (bits .andNot .u32 x4 x3), x5, x6, x7, x8, x9, x10, x11, x12, x13, x14, x15, x16, 1, pc⟩ hr w h
    rw [e2] at this
    exact this
  generalize (sPend ⟨x0, x1, x2, x3, (bits .andNot .u32 x4 x3), x5, x6, x7, x8, x9, x10, x11, x12, x13, x14, x15, x16, 1, pc⟩).1 = r2 at p2
  have P2 := _root_.Go.Lib.hid p2
  clear p2
  have p3 : ∀ w, Tab w → Calls Tryd.prog 12 #[.agg (St.r ⟨(bits .or .u32 x0 10), x1, 0, x3, x4, x5, x6, x7, x8, x9, x10, x11, x12, x13, x14, x15, x16, 1, pc⟩)] w fun e w' => e = .returned (.tuple #[.int .u32 (sPend ⟨(bits .or .u32 x0 10), x1, 0, x3, x4, x5, x6, x7, x8, x9, x10, x11, x12, x13, x14, x15, x16, 1, pc⟩).1, .bool (!(bits .and .u32 (bits .and .u32 x4 x3) 2730 == 0))]) ∧ Below w.heap.size w w' := by
    intro w h
    have := pending_calls ⟨(bits .or .u32 x0 10), x1, 0, x3, x4, x5, x6, x7, x8, x9, x10, x11, x12, x13, x14, x15, x16, 1, pc⟩ hr w h
    rw [e3] at this
    exact this
  generalize (sPend ⟨(bits .or .u32 x0 10), x1, 0, x3, x4, x5, x6, x7, x8, x9, x10, x11, x12, x13, x14, x15, x16, 1, pc⟩).1 = r3 at p3
  have P3 := _root_.Go.Lib.hid p3
  clear p3
  clear e1 e2 e3
  have HT := _root_.Go.Lib.hid hT
  clear hT
  have k0 := (KW.start (Below.refl w.heap.size w) (Nat.le_refl _)).push (St.q ⟨x0, x1, x2, x3, x4, x5, x6, x7, x8, x9, x10, x11, x12, x13, x14, x15, x16, 1, pc⟩)
  have H0 := _root_.Go.Lib.hid k0
  clear k0
  have HR := _root_.Go.Lib.hid hr
  clear hr
  go_enter Tryd.func8, Tryd.ntmps8
  go_wp2_with fail
  refine (alive_calls _ (HT.out.below H0.out.bel HT.out.pos)).mono ?_
  rintro e w1 ⟨rfl, hb⟩
  have k := H0.out.grown hb
  clear hb H0
  have H1 := _root_.Go.Lib.hid k
  clear k
  go_wp2_with ((with_reducible apply wpList_load_at 27 Tryd.underlying27); rfl; exact H1.out.get (g := w.heap.size) (o := St.q ⟨x0, x1, x2, x3, x4, x5, x6, x7, x8, x9, x10, x11, x12, x13, x14, x15, x16, 1, pc⟩) (by simp); rfl; exact size27)
  refine (right_calls ⟨x0, x1, x2, x3, x4, x5, x6, x7, x8, x9, x10, x11, x12, x13, x14, x15, x16, 1, pc⟩ HR.out _).mono ?_
  rintro e w2 ⟨rfl, hb⟩
  have k := H1.out.grown hb
  clear hb H1
  have H2 := _root_.Go.Lib.hid k
  clear k
  go_wp2_with ((with_reducible apply wpList_load_at 27 Tryd.underlying27); rfl; exact H2.out.get (g := w.heap.size) (o := St.q ⟨x0, x1, x2, x3, x4, x5, x6, x7, x8, x9, x10, x11, x12, x13, x14, x15, x16, 1, pc⟩) (by simp); rfl; exact size27)
  refine (theirs_calls ⟨x0, x1, x2, x3, x4, x5, x6, x7, x8, x9, x10, x11, x12, x13, x14, x15, x16, 1, pc⟩ _).mono ?_
  rintro e w3 ⟨rfl, hb⟩
  have k := H2.out.grown hb
  clear hb H2
  have H3 := _root_.Go.Lib.hid k
  clear k
  have k := H3.out.push resO
  have P := _root_.Go.Lib.hid k
  clear k
  go_upto_region 6 with ((with_reducible apply wpList_store_at 32); rfl; rfl; (exact P.out.get (g := w3.heap.size) (o := resO) (by simp)); exact size32; rfl; rfl; rfl; (have h := KW.row (vs := St.r ⟨x0, x1, x2, x3, x4, x5, x6, x7, x8, x9, x10, x11, x12, x13, x14, x15, x16, 1, pc⟩) P.out); (generalize World.setRow _ (World.heap w3).size _ = w4 at h ⊢))
  generalize (World.heap w3).size = g1 at h ⊢
  clear P H3 w3
  have H4 := _root_.Go.Lib.hid h
  clear h
  have m2 : w4.cell? ⟨g1, 2, none⟩ = some (.int .u32 x2) := cell_at (H4.out.get (g := g1) (o := .cells (#[.int .u32 x0, .int .u32 x1, .int .u32 x2, .int .u32 x3, .int .u32 x4, .int .u32 x5, .int .u32 x6, .int .u32 x7, .int .u32 x8, .int .u32 x9, .int .u32 x10, .int .u32 x11, .int .u32 x12, .int .u32 x13, .int .u32 x14, .int .u32 x15, .int .u64 x16, .int .i64 1, .int .u32 pc]) 32) (by simp)) 2
  have f2 : w4.frozen? ⟨g1, 2, none⟩ = false := free_at (H4.out.get (g := g1) (o := .cells (#[.int .u32 x0, .int .u32 x1, .int .u32 x2, .int .u32 x3, .int .u32 x4, .int .u32 x5, .int .u32 x6, .int .u32 x7, .int .u32 x8, .int .u32 x9, .int .u32 x10, .int .u32 x11, .int .u32 x12, .int .u32 x13, .int .u32 x14, .int .u32 x15, .int .u64 x16, .int .i64 1, .int .u32 pc]) 32) (by simp)) 2
  go_upto_region 7 with fail
  have k := (KW.cell (i := 2) (x := .int .u32 4294967295) (vs := #[.int .u32 x0, .int .u32 x1, .int .u32 4294967295, .int .u32 x3, .int .u32 x4, .int .u32 x5, .int .u32 x6, .int .u32 x7, .int .u32 x8, .int .u32 x9, .int .u32 x10, .int .u32 x11, .int .u32 x12, .int .u32 x13, .int .u32 x14, .int .u32 x15, .int .u64 x16, .int .i64 1, .int .u32 pc]) H4.out rfl)
  generalize World.setCell _ _ _ = w5 at k ⊢
  clear m2 f2 H4
  have H5 := _root_.Go.Lib.hid k
  clear k
  go_wp2_with ((with_reducible apply wpList_load_at 32 Tryd.underlying32); rfl; exact H5.out.get (g := g1) (o := .cells (#[.int .u32 x0, .int .u32 x1, .int .u32 4294967295, .int .u32 x3, .int .u32 x4, .int .u32 x5, .int .u32 x6, .int .u32 x7, .int .u32 x8, .int .u32 x9, .int .u32 x10, .int .u32 x11, .int .u32 x12, .int .u32 x13, .int .u32 x14, .int .u32 x15, .int .u64 x16, .int .i64 1, .int .u32 pc]) 32) (by simp); rfl; exact size32)
  refine (P1.out _ (HT.out.below H5.out.bel HT.out.pos)).mono ?_
  rintro e w6 ⟨rfl, hb⟩
  have k := H5.out.grown hb
  clear hb H5
  have H6 := _root_.Go.Lib.hid k
  clear k
  have m17 : w6.cell? ⟨g1, 17, none⟩ = some (.int .i64 1) := cell_at (H6.out.get (g := g1) (o := .cells (#[.int .u32 x0, .int .u32 x1, .int .u32 4294967295, .int .u32 x3, .int .u32 x4, .int .u32 x5, .int .u32 x6, .int .u32 x7, .int .u32 x8, .int .u32 x9, .int .u32 x10, .int .u32 x11, .int .u32 x12, .int .u32 x13, .int .u32 x14, .int .u32 x15, .int .u64 x16, .int .i64 1, .int .u32 pc]) 32) (by simp)) 17
  go_wp2_with ((with_reducible apply wpList_load_at 27 Tryd.underlying27); rfl; exact H6.out.get (g := w.heap.size) (o := St.q ⟨x0, x1, x2, x3, x4, x5, x6, x7, x8, x9, x10, x11, x12, x13, x14, x15, x16, 1, pc⟩) (by simp); rfl; exact size27)
  refine (theirs_calls ⟨x0, x1, x2, x3, x4, x5, x6, x7, x8, x9, x10, x11, x12, x13, x14, x15, x16, 1, pc⟩ _).mono ?_
  rintro e w7 ⟨rfl, hb⟩
  have k := H6.out.grown hb
  clear hb H6
  have H7 := _root_.Go.Lib.hid k
  clear k
  clear m17
  go_upto_region 11 with ((with_reducible apply wpList_store_at 32); rfl; rfl; (exact H7.out.get (g := g1) (o := .cells (#[.int .u32 x0, .int .u32 x1, .int .u32 4294967295, .int .u32 x3, .int .u32 x4, .int .u32 x5, .int .u32 x6, .int .u32 x7, .int .u32 x8, .int .u32 x9, .int .u32 x10, .int .u32 x11, .int .u32 x12, .int .u32 x13, .int .u32 x14, .int .u32 x15, .int .u64 x16, .int .i64 1, .int .u32 pc]) 32) (by simp)); exact size32; rfl; rfl; rfl; (have h := KW.row (vs := St.r ⟨x0, x1, x2, x3, x4, x5, x6, x7, x8, x9, x10, x11, x12, x13, x14, x15, x16, 1, pc⟩) H7.out); (generalize World.setRow _ g1 _ = w8 at h ⊢))
  clear H7
  have H8 := _root_.Go.Lib.hid h
  clear h
  have m3 : w8.cell? ⟨g1, 3, none⟩ = some (.int .u32 x3) := cell_at (H8.out.get (g := g1) (o := .cells (#[.int .u32 x0, .int .u32 x1, .int .u32 x2, .int .u32 x3, .int .u32 x4, .int .u32 x5, .int .u32 x6, .int .u32 x7, .int .u32 x8, .int .u32 x9, .int .u32 x10, .int .u32 x11, .int .u32 x12, .int .u32 x13, .int .u32 x14, .int .u32 x15, .int .u64 x16, .int .i64 1, .int .u32 pc]) 32) (by simp)) 3
  have m4 : w8.cell? ⟨g1, 4, none⟩ = some (.int .u32 x4) := cell_at (H8.out.get (g := g1) (o := .cells (#[.int .u32 x0, .int .u32 x1, .int .u32 x2, .int .u32 x3, .int .u32 x4, .int .u32 x5, .int .u32 x6, .int .u32 x7, .int .u32 x8, .int .u32 x9, .int .u32 x10, .int .u32 x11, .int .u32 x12, .int .u32 x13, .int .u32 x14, .int .u32 x15, .int .u64 x16, .int .i64 1, .int .u32 pc]) 32) (by simp)) 4
  have f4 : w8.frozen? ⟨g1, 4, none⟩ = false := free_at (H8.out.get (g := g1) (o := .cells (#[.int .u32 x0, .int .u32 x1, .int .u32 x2, .int .u32 x3, .int .u32 x4, .int .u32 x5, .int .u32 x6, .int .u32 x7, .int .u32 x8, .int .u32 x9, .int .u32 x10, .int .u32 x11, .int .u32 x12, .int .u32 x13, .int .u32 x14, .int .u32 x15, .int .u64 x16, .int .i64 1, .int .u32 pc]) 32) (by simp)) 4
  go_upto_region 12 with fail
  have k := (KW.cell (i := 4) (x := .int .u32 (bits .andNot .u32 x4 x3)) (vs := #[.int .u32 x0, .int .u32 x1, .int .u32 x2, .int .u32 x3, .int .u32 (bits .andNot .u32 x4 x3), .int .u32 x5, .int .u32 x6, .int .u32 x7, .int .u32 x8, .int .u32 x9, .int .u32 x10, .int .u32 x11, .int .u32 x12, .int .u32 x13, .int .u32 x14, .int .u32 x15, .int .u64 x16, .int .i64 1, .int .u32 pc]) H8.out rfl)
  generalize World.setCell _ _ _ = w9 at k ⊢
  clear m3 m4 f4 H8
  have H9 := _root_.Go.Lib.hid k
  clear k
  go_wp2_with ((with_reducible apply wpList_load_at 32 Tryd.underlying32); rfl; exact H9.out.get (g := g1) (o := .cells (#[.int .u32 x0, .int .u32 x1, .int .u32 x2, .int .u32 x3, .int .u32 (bits .andNot .u32 x4 x3), .int .u32 x5, .int .u32 x6, .int .u32 x7, .int .u32 x8, .int .u32 x9, .int .u32 x10, .int .u32 x11, .int .u32 x12, .int .u32 x13, .int .u32 x14, .int .u32 x15, .int .u64 x16, .int .i64 1, .int .u32 pc]) 32) (by simp); rfl; exact size32)
  refine (P2.out _ (HT.out.below H9.out.bel HT.out.pos)).mono ?_
  rintro e w10 ⟨rfl, hb⟩
  have k := H9.out.grown hb
  clear hb H9
  have H10 := _root_.Go.Lib.hid k
  clear k
  go_wp2_with ((with_reducible apply wpList_load_at 27 Tryd.underlying27); rfl; exact H10.out.get (g := w.heap.size) (o := St.q ⟨x0, x1, x2, x3, x4, x5, x6, x7, x8, x9, x10, x11, x12, x13, x14, x15, x16, 1, pc⟩) (by simp); rfl; exact size27)
  refine (theirs_calls ⟨x0, x1, x2, x3, x4, x5, x6, x7, x8, x9, x10, x11, x12, x13, x14, x15, x16, 1, pc⟩ _).mono ?_
  rintro e w11 ⟨rfl, hb⟩
  have k := H10.out.grown hb
  clear hb H10
  have H11 := _root_.Go.Lib.hid k
  clear k
  go_upto_region 14 with ((with_reducible apply wpList_store_at 32); rfl; rfl; (exact H11.out.get (g := g1) (o := .cells (#[.int .u32 x0, .int .u32 x1, .int .u32 x2, .int .u32 x3, .int .u32 (bits .andNot .u32 x4 x3), .int .u32 x5, .int .u32 x6, .int .u32 x7, .int .u32 x8, .int .u32 x9, .int .u32 x10, .int .u32 x11, .int .u32 x12, .int .u32 x13, .int .u32 x14, .int .u32 x15, .int .u64 x16, .int .i64 1, .int .u32 pc]) 32) (by simp)); exact size32; rfl; rfl; rfl; (have h := KW.row (vs := St.r ⟨x0, x1, x2, x3, x4, x5, x6, x7, x8, x9, x10, x11, x12, x13, x14, x15, x16, 1, pc⟩) H11.out); (generalize World.setRow _ g1 _ = w12 at h ⊢))
  clear H11
  have H12 := _root_.Go.Lib.hid h
  clear h
  have m0 : w12.cell? ⟨g1, 0, none⟩ = some (.int .u32 x0) := cell_at (H12.out.get (g := g1) (o := .cells (#[.int .u32 x0, .int .u32 x1, .int .u32 x2, .int .u32 x3, .int .u32 x4, .int .u32 x5, .int .u32 x6, .int .u32 x7, .int .u32 x8, .int .u32 x9, .int .u32 x10, .int .u32 x11, .int .u32 x12, .int .u32 x13, .int .u32 x14, .int .u32 x15, .int .u64 x16, .int .i64 1, .int .u32 pc]) 32) (by simp)) 0
  have m2 : w12.cell? ⟨g1, 2, none⟩ = some (.int .u32 x2) := cell_at (H12.out.get (g := g1) (o := .cells (#[.int .u32 x0, .int .u32 x1, .int .u32 x2, .int .u32 x3, .int .u32 x4, .int .u32 x5, .int .u32 x6, .int .u32 x7, .int .u32 x8, .int .u32 x9, .int .u32 x10, .int .u32 x11, .int .u32 x12, .int .u32 x13, .int .u32 x14, .int .u32 x15, .int .u64 x16, .int .i64 1, .int .u32 pc]) 32) (by simp)) 2
  have f0 : w12.frozen? ⟨g1, 0, none⟩ = false := free_at (H12.out.get (g := g1) (o := .cells (#[.int .u32 x0, .int .u32 x1, .int .u32 x2, .int .u32 x3, .int .u32 x4, .int .u32 x5, .int .u32 x6, .int .u32 x7, .int .u32 x8, .int .u32 x9, .int .u32 x10, .int .u32 x11, .int .u32 x12, .int .u32 x13, .int .u32 x14, .int .u32 x15, .int .u64 x16, .int .i64 1, .int .u32 pc]) 32) (by simp)) 0
  have f2 : w12.frozen? ⟨g1, 2, none⟩ = false := free_at (H12.out.get (g := g1) (o := .cells (#[.int .u32 x0, .int .u32 x1, .int .u32 x2, .int .u32 x3, .int .u32 x4, .int .u32 x5, .int .u32 x6, .int .u32 x7, .int .u32 x8, .int .u32 x9, .int .u32 x10, .int .u32 x11, .int .u32 x12, .int .u32 x13, .int .u32 x14, .int .u32 x15, .int .u64 x16, .int .i64 1, .int .u32 pc]) 32) (by simp)) 2
  go_upto_region 16 with fail
  have k := (KW.cell (i := 2) (x := .int .u32 0) (vs := #[.int .u32 (bits .or .u32 x0 10), .int .u32 x1, .int .u32 0, .int .u32 x3, .int .u32 x4, .int .u32 x5, .int .u32 x6, .int .u32 x7, .int .u32 x8, .int .u32 x9, .int .u32 x10, .int .u32 x11, .int .u32 x12, .int .u32 x13, .int .u32 x14, .int .u32 x15, .int .u64 x16, .int .i64 1, .int .u32 pc]) (KW.cell (i := 0) (x := .int .u32 (bits .or .u32 x0 10)) (vs := #[.int .u32 (bits .or .u32 x0 10), .int .u32 x1, .int .u32 x2, .int .u32 x3, .int .u32 x4, .int .u32 x5, .int .u32 x6, .int .u32 x7, .int .u32 x8, .int .u32 x9, .int .u32 x10, .int .u32 x11, .int .u32 x12, .int .u32 x13, .int .u32 x14, .int .u32 x15, .int .u64 x16, .int .i64 1, .int .u32 pc]) H12.out rfl) rfl)
  generalize World.setCell _ _ _ = w13 at k ⊢
  clear m0 m2 f0 f2 H12
  have H13 := _root_.Go.Lib.hid k
  clear k
  go_wp2_with ((with_reducible apply wpList_load_at 32 Tryd.underlying32); rfl; exact H13.out.get (g := g1) (o := .cells (#[.int .u32 (bits .or .u32 x0 10), .int .u32 x1, .int .u32 0, .int .u32 x3, .int .u32 x4, .int .u32 x5, .int .u32 x6, .int .u32 x7, .int .u32 x8, .int .u32 x9, .int .u32 x10, .int .u32 x11, .int .u32 x12, .int .u32 x13, .int .u32 x14, .int .u32 x15, .int .u64 x16, .int .i64 1, .int .u32 pc]) 32) (by simp); rfl; exact size32)
  refine (P3.out _ (HT.out.below H13.out.bel HT.out.pos)).mono ?_
  rintro e w14 ⟨rfl, hb⟩
  have k := H13.out.grown hb
  clear hb H13
  have H14 := _root_.Go.Lib.hid k
  clear k
  have m3 : w14.cell? ⟨g1, 3, none⟩ = some (.int .u32 x3) := cell_at (H14.out.get (g := g1) (o := .cells (#[.int .u32 (bits .or .u32 x0 10), .int .u32 x1, .int .u32 0, .int .u32 x3, .int .u32 x4, .int .u32 x5, .int .u32 x6, .int .u32 x7, .int .u32 x8, .int .u32 x9, .int .u32 x10, .int .u32 x11, .int .u32 x12, .int .u32 x13, .int .u32 x14, .int .u32 x15, .int .u64 x16, .int .i64 1, .int .u32 pc]) 32) (by simp)) 3
  have m4 : w14.cell? ⟨g1, 4, none⟩ = some (.int .u32 x4) := cell_at (H14.out.get (g := g1) (o := .cells (#[.int .u32 (bits .or .u32 x0 10), .int .u32 x1, .int .u32 0, .int .u32 x3, .int .u32 x4, .int .u32 x5, .int .u32 x6, .int .u32 x7, .int .u32 x8, .int .u32 x9, .int .u32 x10, .int .u32 x11, .int .u32 x12, .int .u32 x13, .int .u32 x14, .int .u32 x15, .int .u64 x16, .int .i64 1, .int .u32 pc]) 32) (by simp)) 4
  go_wp2
  go_ret
  exact ⟨by first | rfl | simp [bne], H14.out.bel⟩
set_option maxRecDepth 100000 in
set_option maxHeartbeats 1600000 in
theorem tlines_3f (s : St) (hr : Right s) (hp : s.p = 3) (hi : (sPend { s with x2 := 4294967295 }).2 = false) (w : World) (hT : Tab w) : Calls Tryd.prog 8 #[.agg s.r] w fun e w' => e = .returned (.bool true) ∧ Below w.heap.size w w' := by
  obtain ⟨x0, x1, x2, x3, x4, x5, x6, x7, x8, x9, x10, x11, x12, x13, x14, x15, x16, p, pc⟩ := s
  obtain rfl : p = 3 := hp
  have e1 : (sPend ⟨x0, x1, 4294967295, x3, x4, x5, x6, x7, x8, x9, x10, x11, x12, x13, x14, x15, x16, 3, pc⟩).2 = false := hi
  have e2 : (sPend ⟨x0, x1, x2, x3, (bits .andNot .u32 x4 x3), x5, x6, x7, x8, x9, x10, x11, x12, x13, x14, x15, x16, 3, pc⟩).2 = false := lines_2 ⟨x0, x1, x2, x3, x4, x5, x6, x7, x8, x9, x10, x11, x12, x13, x14, x15, x16, 3, pc⟩
  have e3 := lines_3 ⟨x0, x1, x2, x3, x4, x5, x6, x7, x8, x9, x10, x11, x12, x13, x14, x15, x16, 3, pc⟩ hr
  clear hi
  have p1 : ∀ w, Tab w → Calls Tryd.prog 12 #[.agg (St.r ⟨x0, x1, 4294967295, x3, x4, x5, x6, x7, x8, x9, x10, x11, x12, x13, x14, x15, x16, 3, pc⟩)] w fun e w' => e = .returned (.tuple #[.int .u32 (sPend ⟨x0, x1, 4294967295, x3, x4, x5, x6, x7, x8, x9, x10, x11, x12, x13, x14, x15, x16, 3, pc⟩).1, .bool false]) ∧ Below w.heap.size w w' := by
    intro w h
    have := pending_calls ⟨x0, x1, 4294967295, x3, x4, x5, x6, x7, x8, x9, x10, x11, x12, x13, x14, x15, x16, 3, pc⟩ hr w h
    rw [e1] at this
    exact this
  generalize (sPend ⟨x0, x1, 4294967295, x3, x4, x5, x6, x7, x8, x9, x10, x11, x12, x13, x14, x15, x16, 3, pc⟩).1 = r1 at p1
  have P1 := _root_.Go.Lib.hid p1
  clear p1
  have p2 : ∀ w, Tab w → Calls Tryd.prog 12 #[.agg (St.r ⟨x0, x1, x2, x3, (bits .andNot .u32 x4 x3), x5, x6, x7, x8, x9, x10, x11, x12, x13, x14, x15, x16, 3, pc⟩)] w fun e w' => e = .returned (.tuple #[.int .u32 (sPend ⟨x0, x1, x2, x3, (bits .andNot .u32 x4 x3), x5, x6, x7, x8, x9, x10, x11, x12, x13, x14, x15, x16, 3, pc⟩).1, .bool false]) ∧ Below w.heap.size w w' := by
    intro w h
    have := pending_calls ⟨x0, x1, x2, x3, (bits .andNot .u32 x4 x3), x5, x6, x7, x8, x9, x10, x11, x12, x13, x14, x15, x16, 3, pc⟩ hr w h
    rw [e2] at this
    exact this
  generalize (sPend ⟨x0, x1, x2, x3, (bits .andNot .u32 x4 x3), x5, x6, x7, x8, x9, x10, x11, x12, x13, x14, x15, x16, 3, pc⟩).1 = r2 at p2
  have P2 := _root_.Go.Lib.hid p2
  clear p2
  have p3 : ∀ w, Tab w → Calls Tryd.prog 12 #[.agg (St.r ⟨(bits .or .u32 x0 10), x1, 0, x3, x4, x5, x6, x7, x8, x9, x10, x11, x12, x13, x14, x15, x16, 3, pc⟩)] w fun e w' => e = .returned (.tuple #[.int .u32 (sPend ⟨(bits .or .u32 x0 10), x1, 0, x3, x4, x5, x6, x7, x8, x9, x10, x11, x12, x13, x14, x15, x16, 3, pc⟩).1, .bool (!(bits .and .u32 (bits .and .u32 x4 x3) 2730 == 0))]) ∧ Below w.heap.size w w' := by
    intro w h
    have := pending_calls ⟨(bits .or .u32 x0 10), x1, 0, x3, x4, x5, x6, x7, x8, x9, x10, x11, x12, x13, x14, x15, x16, 3, pc⟩ hr w h
    rw [e3] at this
    exact this
  generalize (sPend ⟨(bits .or .u32 x0 10), x1, 0, x3, x4, x5, x6, x7, x8, x9, x10, x11, x12, x13, x14, x15, x16, 3, pc⟩).1 = r3 at p3
  have P3 := _root_.Go.Lib.hid p3
  clear p3
  clear e1 e2 e3
  have HT := _root_.Go.Lib.hid hT
  clear hT
  have k0 := (KW.start (Below.refl w.heap.size w) (Nat.le_refl _)).push (St.q ⟨x0, x1, x2, x3, x4, x5, x6, x7, x8, x9, x10, x11, x12, x13, x14, x15, x16, 3, pc⟩)
  have H0 := _root_.Go.Lib.hid k0
  clear k0
  have HR := _root_.Go.Lib.hid hr
  clear hr
  go_enter Tryd.func8, Tryd.ntmps8
  go_wp2_with fail
  refine (alive_calls _ (HT.out.below H0.out.bel HT.out.pos)).mono ?_
  rintro e w1 ⟨rfl, hb⟩
  have k := H0.out.grown hb
  clear hb H0
  have H1 := _root_.Go.Lib.hid k
  clear k
  go_wp2_with ((with_reducible apply wpList_load_at 27 Tryd.underlying27); rfl; exact H1.out.get (g := w.heap.size) (o := St.q ⟨x0, x1, x2, x3, x4, x5, x6, x7, x8, x9, x10, x11, x12, x13, x14, x15, x16, 3, pc⟩) (by simp); rfl; exact size27)
  refine (right_calls ⟨x0, x1, x2, x3, x4, x5, x6, x7, x8, x9, x10, x11, x12, x13, x14, x15, x16, 3, pc⟩ HR.out _).mono ?_
  rintro e w2 ⟨rfl, hb⟩
  have k := H1.out.grown hb
  clear hb H1
  have H2 := _root_.Go.Lib.hid k
  clear k
  go_wp2_with ((with_reducible apply wpList_load_at 27 Tryd.underlying27); rfl; exact H2.out.get (g := w.heap.size) (o := St.q ⟨x0, x1, x2, x3, x4, x5, x6, x7, x8, x9, x10, x11, x12, x13, x14, x15, x16, 3, pc⟩) (by simp); rfl; exact size27)
  refine (theirs_calls ⟨x0, x1, x2, x3, x4, x5, x6, x7, x8, x9, x10, x11, x12, x13, x14, x15, x16, 3, pc⟩ _).mono ?_
  rintro e w3 ⟨rfl, hb⟩
  have k := H2.out.grown hb
  clear hb H2
  have H3 := _root_.Go.Lib.hid k
  clear k
  have k := H3.out.push resO
  have P := _root_.Go.Lib.hid k
  clear k
  go_upto_region 6 with ((with_reducible apply wpList_store_at 32); rfl; rfl; (exact P.out.get (g := w3.heap.size) (o := resO) (by simp)); exact size32; rfl; rfl; rfl; (have h := KW.row (vs := St.r ⟨x0, x1, x2, x3, x4, x5, x6, x7, x8, x9, x10, x11, x12, x13, x14, x15, x16, 3, pc⟩) P.out); (generalize World.setRow _ (World.heap w3).size _ = w4 at h ⊢))
  generalize (World.heap w3).size = g1 at h ⊢
  clear P H3 w3
  have H4 := _root_.Go.Lib.hid h
  clear h
  have m2 : w4.cell? ⟨g1, 2, none⟩ = some (.int .u32 x2) := cell_at (H4.out.get (g := g1) (o := .cells (#[.int .u32 x0, .int .u32 x1, .int .u32 x2, .int .u32 x3, .int .u32 x4, .int .u32 x5, .int .u32 x6, .int .u32 x7, .int .u32 x8, .int .u32 x9, .int .u32 x10, .int .u32 x11, .int .u32 x12, .int .u32 x13, .int .u32 x14, .int .u32 x15, .int .u64 x16, .int .i64 3, .int .u32 pc]) 32) (by simp)) 2
  have f2 : w4.frozen? ⟨g1, 2, none⟩ = false := free_at (H4.out.get (g := g1) (o := .cells (#[.int .u32 x0, .int .u32 x1, .int .u32 x2, .int .u32 x3, .int .u32 x4, .int .u32 x5, .int .u32 x6, .int .u32 x7, .int .u32 x8, .int .u32 x9, .int .u32 x10, .int .u32 x11, .int .u32 x12, .int .u32 x13, .int .u32 x14, .int .u32 x15, .int .u64 x16, .int .i64 3, .int .u32 pc]) 32) (by simp)) 2
  go_upto_region 7 with fail
  have k := (KW.cell (i := 2) (x := .int .u32 4294967295) (vs := #[.int .u32 x0, .int .u32 x1, .int .u32 4294967295, .int .u32 x3, .int .u32 x4, .int .u32 x5, .int .u32 x6, .int .u32 x7, .int .u32 x8, .int .u32 x9, .int .u32 x10, .int .u32 x11, .int .u32 x12, .int .u32 x13, .int .u32 x14, .int .u32 x15, .int .u64 x16, .int .i64 3, .int .u32 pc]) H4.out rfl)
  generalize World.setCell _ _ _ = w5 at k ⊢
  clear m2 f2 H4
  have H5 := _root_.Go.Lib.hid k
  clear k
  go_wp2_with ((with_reducible apply wpList_load_at 32 Tryd.underlying32); rfl; exact H5.out.get (g := g1) (o := .cells (#[.int .u32 x0, .int .u32 x1, .int .u32 4294967295, .int .u32 x3, .int .u32 x4, .int .u32 x5, .int .u32 x6, .int .u32 x7, .int .u32 x8, .int .u32 x9, .int .u32 x10, .int .u32 x11, .int .u32 x12, .int .u32 x13, .int .u32 x14, .int .u32 x15, .int .u64 x16, .int .i64 3, .int .u32 pc]) 32) (by simp); rfl; exact size32)
  refine (P1.out _ (HT.out.below H5.out.bel HT.out.pos)).mono ?_
  rintro e w6 ⟨rfl, hb⟩
  have k := H5.out.grown hb
  clear hb H5
  have H6 := _root_.Go.Lib.hid k
  clear k
  have m17 : w6.cell? ⟨g1, 17, none⟩ = some (.int .i64 3) := cell_at (H6.out.get (g := g1) (o := .cells (#[.int .u32 x0, .int .u32 x1, .int .u32 4294967295, .int .u32 x3, .int .u32 x4, .int .u32 x5, .int .u32 x6, .int .u32 x7, .int .u32 x8, .int .u32 x9, .int .u32 x10, .int .u32 x11, .int .u32 x12, .int .u32 x13, .int .u32 x14, .int .u32 x15, .int .u64 x16, .int .i64 3, .int .u32 pc]) 32) (by simp)) 17
  go_wp2_with ((with_reducible apply wpList_load_at 27 Tryd.underlying27); rfl; exact H6.out.get (g := w.heap.size) (o := St.q ⟨x0, x1, x2, x3, x4, x5, x6, x7, x8, x9, x10, x11, x12, x13, x14, x15, x16, 3, pc⟩) (by simp); rfl; exact size27)
  refine (theirs_calls ⟨x0, x1, x2, x3, x4, x5, x6, x7, x8, x9, x10, x11, x12, x13, x14, x15, x16, 3, pc⟩ _).mono ?_
  rintro e w7 ⟨rfl, hb⟩
  have k := H6.out.grown hb
  clear hb H6
  have H7 := _root_.Go.Lib.hid k
  clear k
  clear m17
  go_upto_region 11 with ((with_reducible apply wpList_store_at 32); rfl; rfl; (exact H7.out.get (g := g1) (o := .cells (#[.int .u32 x0, .int .u32 x1, .int .u32 4294967295, .int .u32 x3, .int .u32 x4, .int .u32 x5, .int .u32 x6, .int .u32 x7, .int .u32 x8, .int .u32 x9, .int .u32 x10, .int .u32 x11, .int .u32 x12, .int .u32 x13, .int .u32 x14, .int .u32 x15, .int .u64 x16, .int .i64 3, .int .u32 pc]) 32) (by simp)); exact size32; rfl; rfl; rfl; (have h := KW.row (vs := St.r ⟨x0, x1, x2, x3, x4, x5, x6, x7, x8, x9, x10, x11, x12, x13, x14, x15, x16, 3, pc⟩) H7.out); (generalize World.setRow _ g1 _ = w8 at h ⊢))
  clear H7
  have H8 := _root_.Go.Lib.hid h
  clear h
  have m3 : w8.cell? ⟨g1, 3, none⟩ = some (.int .u32 x3) := cell_at (H8.out.get (g := g1) (o := .cells (#[.int .u32 x0, .int .u32 x1, .int .u32 x2, .int .u32 x3, .int .u32 x4, .int .u32 x5, .int .u32 x6, .int .u32 x7, .int .u32 x8, .int .u32 x9, .int .u32 x10, .int .u32 x11, .int .u32 x12, .int .u32 x13, .int .u32 x14, .int .u32 x15, .int .u64 x16, .int .i64 3, .int .u32 pc]) 32) (by simp)) 3
  have m4 : w8.cell? ⟨g1, 4, none⟩ = some (.int .u32 x4) := cell_at (H8.out.get (g := g1) (o := .cells (#[.int .u32 x0, .int .u32 x1, .int .u32 x2, .int .u32 x3, .int .u32 x4, .int .u32 x5, .int .u32 x6, .int .u32 x7, .int .u32 x8, .int .u32 x9, .int .u32 x10, .int .u32 x11, .int .u32 x12, .int .u32 x13, .int .u32 x14, .int .u32 x15, .int .u64 x16, .int .i64 3, .int .u32 pc]) 32) (by simp)) 4
  have f4 : w8.frozen? ⟨g1, 4, none⟩ = false := free_at (H8.out.get (g := g1) (o := .cells (#[.int .u32 x0, .int .u32 x1, .int .u32 x2, .int .u32 x3, .int .u32 x4, .int .u32 x5, .int .u32 x6, .int .u32 x7, .int .u32 x8, .int .u32 x9, .int .u32 x10, .int .u32 x11, .int .u32 x12, .int .u32 x13, .int .u32 x14, .int .u32 x15, .int .u64 x16, .int .i64 3, .int .u32 pc]) 32) (by simp)) 4
  go_upto_region 12 with fail
  have k := (KW.cell (i := 4) (x := .int .u32 (bits .andNot .u32 x4 x3)) (vs := #[.int .u32 x0, .int .u32 x1, .int .u32 x2, .int .u32 x3, .int .u32 (bits .andNot .u32 x4 x3), .int .u32 x5, .int .u32 x6, .int .u32 x7, .int .u32 x8, .int .u32 x9, .int .u32 x10, .int .u32 x11, .int .u32 x12, .int .u32 x13, .int .u32 x14, .int .u32 x15, .int .u64 x16, .int .i64 3, .int .u32 pc]) H8.out rfl)
  generalize World.setCell _ _ _ = w9 at k ⊢
  clear m3 m4 f4 H8
  have H9 := _root_.Go.Lib.hid k
  clear k
  go_wp2_with ((with_reducible apply wpList_load_at 32 Tryd.underlying32); rfl; exact H9.out.get (g := g1) (o := .cells (#[.int .u32 x0, .int .u32 x1, .int .u32 x2, .int .u32 x3, .int .u32 (bits .andNot .u32 x4 x3), .int .u32 x5, .int .u32 x6, .int .u32 x7, .int .u32 x8, .int .u32 x9, .int .u32 x10, .int .u32 x11, .int .u32 x12, .int .u32 x13, .int .u32 x14, .int .u32 x15, .int .u64 x16, .int .i64 3, .int .u32 pc]) 32) (by simp); rfl; exact size32)
  refine (P2.out _ (HT.out.below H9.out.bel HT.out.pos)).mono ?_
  rintro e w10 ⟨rfl, hb⟩
  have k := H9.out.grown hb
  clear hb H9
  have H10 := _root_.Go.Lib.hid k
  clear k
  go_wp2_with ((with_reducible apply wpList_load_at 27 Tryd.underlying27); rfl; exact H10.out.get (g := w.heap.size) (o := St.q ⟨x0, x1, x2, x3, x4, x5, x6, x7, x8, x9, x10, x11, x12, x13, x14, x15, x16, 3, pc⟩) (by simp); rfl; exact size27)
  refine (theirs_calls ⟨x0, x1, x2, x3, x4, x5, x6, x7, x8, x9, x10, x11, x12, x13, x14, x15, x16, 3, pc⟩ _).mono ?_
  rintro e w11 ⟨rfl, hb⟩
  have k := H10.out.grown hb
  clear hb H10
  have H11 := _root_.Go.Lib.hid k
  clear k
  go_upto_region 14 with ((with_reducible apply wpList_store_at 32); rfl; rfl; (exact H11.out.get (g := g1) (o := .cells (#[.int .u32 x0, .int .u32 x1, .int .u32 x2, .int .u32 x3, .int .u32 (bits .andNot .u32 x4 x3), .int .u32 x5, .int .u32 x6, .int .u32 x7, .int .u32 x8, .int .u32 x9, .int .u32 x10, .int .u32 x11, .int .u32 x12, .int .u32 x13, .int .u32 x14, .int .u32 x15, .int .u64 x16, .int .i64 3, .int .u32 pc]) 32) (by simp)); exact size32; rfl; rfl; rfl; (have h := KW.row (vs := St.r ⟨x0, x1, x2, x3, x4, x5, x6, x7, x8, x9, x10, x11, x12, x13, x14, x15, x16, 3, pc⟩) H11.out); (generalize World.setRow _ g1 _ = w12 at h ⊢))
  clear H11
  have H12 := _root_.Go.Lib.hid h
  clear h
  have m0 : w12.cell? ⟨g1, 0, none⟩ = some (.int .u32 x0) := cell_at (H12.out.get (g := g1) (o := .cells (#[.int .u32 x0, .int .u32 x1, .int .u32 x2, .int .u32 x3, .int .u32 x4, .int .u32 x5, .int .u32 x6, .int .u32 x7, .int .u32 x8, .int .u32 x9, .int .u32 x10, .int .u32 x11, .int .u32 x12, .int .u32 x13, .int .u32 x14, .int .u32 x15, .int .u64 x16, .int .i64 3, .int .u32 pc]) 32) (by simp)) 0
  have m2 : w12.cell? ⟨g1, 2, none⟩ = some (.int .u32 x2) := cell_at (H12.out.get (g := g1) (o := .cells (#[.int .u32 x0, .int .u32 x1, .int .u32 x2, .int .u32 x3, .int .u32 x4, .int .u32 x5, .int .u32 x6, .int .u32 x7, .int .u32 x8, .int .u32 x9, .int .u32 x10, .int .u32 x11, .int .u32 x12, .int .u32 x13, .int .u32 x14, .int .u32 x15, .int .u64 x16, .int .i64 3, .int .u32 pc]) 32) (by simp)) 2
  have f0 : w12.frozen? ⟨g1, 0, none⟩ = false := free_at (H12.out.get (g := g1) (o := .cells (#[.int .u32 x0, .int .u32 x1, .int .u32 x2, .int .u32 x3, .int .u32 x4, .int .u32 x5, .int .u32 x6, .int .u32 x7, .int .u32 x8, .int .u32 x9, .int .u32 x10, .int .u32 x11, .int .u32 x12, .int .u32 x13, .int .u32 x14, .int .u32 x15, .int .u64 x16, .int .i64 3, .int .u32 pc]) 32) (by simp)) 0
  have f2 : w12.frozen? ⟨g1, 2, none⟩ = false := free_at (H12.out.get (g := g1) (o := .cells (#[.int .u32 x0, .int .u32 x1, .int .u32 x2, .int .u32 x3, .int .u32 x4, .int .u32 x5, .int .u32 x6, .int .u32 x7, .int .u32 x8, .int .u32 x9, .int .u32 x10, .int .u32 x11, .int .u32 x12, .int .u32 x13, .int .u32 x14, .int .u32 x15, .int .u64 x16, .int .i64 3, .int .u32 pc]) 32) (by simp)) 2
  go_upto_region 16 with fail
  have k := (KW.cell (i := 2) (x := .int .u32 0) (vs := #[.int .u32 (bits .or .u32 x0 10), .int .u32 x1, .int .u32 0, .int .u32 x3, .int .u32 x4, .int .u32 x5, .int .u32 x6, .int .u32 x7, .int .u32 x8, .int .u32 x9, .int .u32 x10, .int .u32 x11, .int .u32 x12, .int .u32 x13, .int .u32 x14, .int .u32 x15, .int .u64 x16, .int .i64 3, .int .u32 pc]) (KW.cell (i := 0) (x := .int .u32 (bits .or .u32 x0 10)) (vs := #[.int .u32 (bits .or .u32 x0 10), .int .u32 x1, .int .u32 x2, .int .u32 x3, .int .u32 x4, .int .u32 x5, .int .u32 x6, .int .u32 x7, .int .u32 x8, .int .u32 x9, .int .u32 x10, .int .u32 x11, .int .u32 x12, .int .u32 x13, .int .u32 x14, .int .u32 x15, .int .u64 x16, .int .i64 3, .int .u32 pc]) H12.out rfl) rfl)
  generalize World.setCell _ _ _ = w13 at k ⊢
  clear m0 m2 f0 f2 H12
  have H13 := _root_.Go.Lib.hid k
  clear k
  go_wp2_with ((with_reducible apply wpList_load_at 32 Tryd.underlying32); rfl; exact H13.out.get (g := g1) (o := .cells (#[.int .u32 (bits .or .u32 x0 10), .int .u32 x1, .int .u32 0, .int .u32 x3, .int .u32 x4, .int .u32 x5, .int .u32 x6, .int .u32 x7, .int .u32 x8, .int .u32 x9, .int .u32 x10, .int .u32 x11, .int .u32 x12, .int .u32 x13, .int .u32 x14, .int .u32 x15, .int .u64 x16, .int .i64 3, .int .u32 pc]) 32) (by simp); rfl; exact size32)
  refine (P3.out _ (HT.out.below H13.out.bel HT.out.pos)).mono ?_
  rintro e w14 ⟨rfl, hb⟩
  have k := H13.out.grown hb
  clear hb H13
  have H14 := _root_.Go.Lib.hid k
  clear k
  have m3 : w14.cell? ⟨g1, 3, none⟩ = some (.int .u32 x3) := cell_at (H14.out.get (g := g1) (o := .cells (#[.int .u32 (bits .or .u32 x0 10), .int .u32 x1, .int .u32 0, .int .u32 x3, .int .u32 x4, .int .u32 x5, .int .u32 x6, .int .u32 x7, .int .u32 x8, .int .u32 x9, .int .u32 x10, .int .u32 x11, .int .u32 x12, .int .u32 x13, .int .u32 x14, .int .u32 x15, .int .u64 x16, .int .i64 3, .int .u32 pc]) 32) (by simp)) 3
  have m4 : w14.cell? ⟨g1, 4, none⟩ = some (.int .u32 x4) := cell_at (H14.out.get (g := g1) (o := .cells (#[.int .u32 (bits .or .u32 x0 10), .int .u32 x1, .int .u32 0, .int .u32 x3, .int .u32 x4, .int .u32 x5, .int .u32 x6, .int .u32 x7, .int .u32 x8, .int .u32 x9, .int .u32 x10, .int .u32 x11, .int .u32 x12, .int .u32 x13, .int .u32 x14, .int .u32 x15, .int .u64 x16, .int .i64 3, .int .u32 pc]) 32) (by simp)) 4
  go_wp2
  go_ret
  exact ⟨by first | rfl | simp [bne], H14.out.bel⟩
theorem tlines_calls (s : St) (w : World) (hT : Tab w) (hF : Wf s) : Calls Tryd.prog 8 #[.agg s.r] w fun e w' => e = .returned (.bool true) ∧ Below w.heap.size w w' := by
  by_cases hr : Right s
  · rcases hr with h | h | h
    · cases hi : (sPend { s with x2 := 4294967295 }).2
      · exact tlines_0f s (.inl h) h hi w hT
      · exact tlines_0t s (.inl h) h hi w hT
    · cases hi : (sPend { s with x2 := 4294967295 }).2
      · exact tlines_1f s (.inr (.inl h)) h hi w hT
      · exact tlines_1t s (.inr (.inl h)) h hi w hT
    · exact tlines_3f s (.inr (.inr h)) h (lines_1 s h) w hT
  · exact tlines_wrong s hr w hT
end Go.Proofs.YtkebphpfedgokaaDoor
