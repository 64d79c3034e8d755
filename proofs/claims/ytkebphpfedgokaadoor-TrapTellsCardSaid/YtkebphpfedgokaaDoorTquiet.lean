/-
  TrapQuiet: what is taken asks, and may; it has not to be taken again at once.
-/
import Derived.Test.YtkebphpfedgokaaDoorTlines
import Derived.Test.YtkebphpfedgokaaDoorPlainb
set_option linter.unusedVariables false
set_option linter.unusedSimpArgs false
namespace Go.Proofs.YtkebphpfedgokaaDoor
open Go.RowKit Go.Lib

theorem and1 (x : Int) (hx : W32 x) (n : Nat) (hn : n < 32) (m : Int) (hm : m = ((2 ^ n : Nat) : Int)) : bits .and .u32 (x / m) 1 = if hb x n then 1 else 0 := by
  obtain ⟨k, rfl⟩ : ∃ k : Nat, x = k := ⟨x.toNat, by have := hx.1; omega⟩
  have hk : k < 4294967296 := by have := hx.2; omega
  subst hm
  rw [hb_nat k n hn, and_bv]
  have e : ((k : Int) / ((2 ^ n : Nat) : Int)) = ((k / 2 ^ n : Nat) : Int) := (Int.natCast_ediv k (2 ^ n)).symm
  have hl : k / 2 ^ n < 2 ^ 32 := Nat.lt_of_le_of_lt (Nat.div_le_self _ _) (by omega)
  rw [e, BitVec.ofInt_natCast, BitVec.toNat_and, BitVec.toNat_ofNat, Nat.mod_eq_of_lt hl]
  have h1 : (BitVec.ofInt 32 1).toNat = 2 ^ 1 - 1 := by decide
  rw [h1, Nat.and_two_pow_sub_one_eq_mod]
  generalize k / 2 ^ n = y
  show ((y % 2 : Nat) : Int) = _
  rcases Nat.mod_two_eq_zero_or_one y with h | h <;> simp [h]
theorem hb_0 (n : Nat) : hb 0 n = false := by
  unfold hb
  rw [show BitVec.ofInt 32 0 = 0#32 by decide, BitVec.getLsbD_zero]
theorem first_in (b : Int) (n : Nat) (h : pFirst b = some n) : (n = 11 ∨ n = 3 ∨ n = 7 ∨ n = 9 ∨ n = 1 ∨ n = 5) ∧ hb b n = true := by
  unfold pFirst at h
  rw [has2048, has8, has128, has512, has2, has32] at h
  split at h
  · cases h; rename_i h; exact ⟨.inl rfl, h⟩
  split at h
  · cases h; rename_i h; exact ⟨.inr (.inl rfl), h⟩
  split at h
  · cases h; rename_i h; exact ⟨.inr (.inr (.inl rfl)), h⟩
  split at h
  · cases h; rename_i h; exact ⟨.inr (.inr (.inr (.inl rfl))), h⟩
  split at h
  · cases h; rename_i h; exact ⟨.inr (.inr (.inr (.inr (.inl rfl)))), h⟩
  split at h
  · cases h; rename_i h; exact ⟨.inr (.inr (.inr (.inr (.inr rfl)))), h⟩
  · cases h
section
variable {s : St} {n : Nat} {m c : Int}
theorem quiet_hi (hr : Right s) (hn : n < 32) (hm : BitVec.ofInt 32 m = BitVec.twoPow 32 n) (hi : tInt c = true) (ht : tBit c = m) (h : hb (sHigh s) n = true) :
    hb s.x4 n = true ∧ hb s.x3 n = true ∧ Right (sTake s c 0) ∧ (sPend (sTake s c 0)).2 = false := by
  have h2 : hb (bits .andNot .u32 (sAsks s) s.x2) n = true := by
    unfold sHigh at h
    split at h
    · exact h
    · rw [hb_0] at h; cases h
  rw [hb_andNot _ _ n hn] at h2
  unfold sAsks at h2
  rw [hb_and] at h2
  simp only [Bool.and_eq_true, Bool.not_eq_true'] at h2
  obtain ⟨⟨a, b⟩, e⟩ := h2
  have hd : sDown s c = false := by
    unfold sDown
    rw [hi, ht]
    simp only [if_true]
    rw [tHas_pow _ _ n hn hm, e, Bool.and_false]
  obtain ⟨tp, _, _, _, t0⟩ := back_up s c 0 hr hd
  refine ⟨a, b, .inr (.inr tp), ?_⟩
  have h8 : tHas (sTake s c 0).x0 8 = false := by unfold tHas; rw [t0]; rfl
  have e1 : sHigh (sTake s c 0) = 0 := by unfold sHigh; rw [tp, h8]; rfl
  have e2 : sLow (sTake s c 0) = 0 := by unfold sLow; rw [tp]; rfl
  unfold sPend
  rw [e1, e2, pTell_zero]
theorem quiet_lo (hr : Right s) (hn : n < 32) (hm : BitVec.ofInt 32 m = BitVec.twoPow 32 n) (hi : tInt c = true) (ht : tBit c = m) (h : hb (sLow s) n = true) (hh : pFirst (sHigh s) = none) :
    hb s.x4 n = true ∧ hb s.x3 n = true ∧ Right (sTake s c 0) ∧ (sPend (sTake s c 0)).2 = false := by
  have h2 : hb (bits .and .u32 (sAsks s) s.x2) n = true ∧ (s.p = 0 ∨ s.p = 1) := by
    unfold sLow at h
    split at h
    · rename_i hc
      refine ⟨h, ?_⟩
      simp only [Bool.or_eq_true, Bool.and_eq_true, beq_iff_eq] at hc
      rcases hc with hc | hc
      · exact .inl hc
      · exact .inr hc.1
    · rw [hb_0] at h; cases h
  obtain ⟨h2, hp⟩ := h2
  rw [hb_and] at h2
  unfold sAsks at h2
  rw [hb_and] at h2
  simp only [Bool.and_eq_true] at h2
  obtain ⟨⟨a, b⟩, e⟩ := h2
  have hd : sDown s c = true := by
    unfold sDown
    rw [hi, ht]
    simp only [if_true]
    rw [tHas_pow _ _ n hn hm, e, Bool.and_true, decide_eq_true_eq]
    omega
  obtain ⟨tp, _, _, _, t0⟩ := back_down s c 0 hr hd
  refine ⟨a, b, .inr (.inl tp), ?_⟩
  have h8 : tHas (sTake s c 0).x0 2 = false := by unfold tHas; rw [t0]; rfl
  have e1 : sHigh (sTake s c 0) = sHigh s := by
    have et : sTake s c 0 = takeDown s c 0 := by unfold sTake; rw [hd]; rfl
    have ea : sAsks (sTake s c 0) = sAsks s := by rw [et]; rfl
    have e3 : (sTake s c 0).x2 = s.x2 := by rw [et]; rfl
    unfold sHigh
    rw [tp, ea, e3]
    rcases hp with hp | hp <;> rw [hp] <;> rfl
  have e2 : sLow (sTake s c 0) = 0 := by unfold sLow; rw [tp, h8]; rfl
  unfold sPend
  rw [e1, e2, tell_some, hh]; rfl
end
/-- What Pending tells of interrupt n. -/
def Quiet (s : St) (n : Nat) (m c : Int) : Prop := (sPend s).1 = c ∧ bits .and .u32 (s.x4 / m) 1 = 1 ∧ bits .and .u32 (s.x3 / m) 1 = 1 ∧ Right (sTake s c 0) ∧ (sPend (sTake s c 0)).2 = false
theorem quiet_at (s : St) (hr : Right s) (hF : Wf s) (n : Nat) (m c : Int) (hn : n < 32) (hm : BitVec.ofInt 32 m = BitVec.twoPow 32 n) (hm2 : m = ((2 ^ n : Nat) : Int)) (hi : tInt c = true) (ht : tBit c = m) (hc : bits .or .u32 2147483648 (n : Int) = c)
    (h : pFirst (sHigh s) = some n ∨ (pFirst (sHigh s) = none ∧ pFirst (sLow s) = some n)) : Quiet s n m c := by
  have key : (hb s.x4 n = true ∧ hb s.x3 n = true ∧ Right (sTake s c 0) ∧ (sPend (sTake s c 0)).2 = false) ∧ (sPend s).1 = c := by
    rcases h with h | ⟨h0, h⟩
    · refine ⟨quiet_hi hr hn hm hi ht (first_in _ _ h).2, ?_⟩
      unfold sPend pTell; rw [h]; exact hc
    · refine ⟨quiet_lo hr hn hm hi ht (first_in _ _ h).2 h0, ?_⟩
      unfold sPend pTell; rw [h0, h]; exact hc
  obtain ⟨⟨a, b, d, e⟩, f⟩ := key
  refine ⟨f, ?_, ?_, d, e⟩
  · rw [and1 _ hF.h4 n hn m hm2, a]; rfl
  · rw [and1 _ hF.h3 n hn m hm2, b]; rfl
theorem quiet_plain (s : St) (hr : Right s) (hF : Wf s) (h : (sPend s).2 = true) : Quiet s 11 2048 2147483659 ∨ Quiet s 3 8 2147483651 ∨ Quiet s 7 128 2147483655 ∨ Quiet s 9 512 2147483657 ∨ Quiet s 1 2 2147483649 ∨ Quiet s 5 32 2147483653 := by
  have : ∃ n, pFirst (sHigh s) = some n ∨ (pFirst (sHigh s) = none ∧ pFirst (sLow s) = some n) := by
    unfold sPend pTell at h
    cases h1 : pFirst (sHigh s) with
    | some n => exact ⟨n, .inl rfl⟩
    | none =>
      rw [h1] at h
      cases h2 : pFirst (sLow s) with
      | some n => exact ⟨n, .inr ⟨rfl, rfl⟩⟩
      | none => rw [h2] at h; cases h
  obtain ⟨n, hn⟩ := this
  have hin : n = 11 ∨ n = 3 ∨ n = 7 ∨ n = 9 ∨ n = 1 ∨ n = 5 := by
    rcases hn with h | ⟨_, h⟩ <;> exact (first_in _ _ h).1
  rcases hin with rfl | rfl | rfl | rfl | rfl | rfl
  · exact .inl (quiet_at s hr hF 11 2048 2147483659 (by decide) (by decide) (by decide) (by kernel_rfl) (by kernel_rfl) (by kernel_rfl) hn)
  · exact .inr (.inl (quiet_at s hr hF 3 8 2147483651 (by decide) (by decide) (by decide) (by kernel_rfl) (by kernel_rfl) (by kernel_rfl) hn))
  · exact .inr (.inr (.inl (quiet_at s hr hF 7 128 2147483655 (by decide) (by decide) (by decide) (by kernel_rfl) (by kernel_rfl) (by kernel_rfl) hn)))
  · exact .inr (.inr (.inr (.inl (quiet_at s hr hF 9 512 2147483657 (by decide) (by decide) (by decide) (by kernel_rfl) (by kernel_rfl) (by kernel_rfl) hn))))
  · exact .inr (.inr (.inr (.inr (.inl (quiet_at s hr hF 1 2 2147483649 (by decide) (by decide) (by decide) (by kernel_rfl) (by kernel_rfl) (by kernel_rfl) hn)))))
  · exact .inr (.inr (.inr (.inr (.inr (quiet_at s hr hF 5 32 2147483653 (by decide) (by decide) (by decide) (by kernel_rfl) (by kernel_rfl) (by kernel_rfl) hn)))))
set_option maxRecDepth 100000 in
set_option maxHeartbeats 1600000 in
theorem tquiet_wrong (s : St) (hr : ¬ Right s) (w : World) (hT : Tab w) : Calls Tryd.prog 6 #[.agg s.r] w fun e w' => e = .returned (.bool true) ∧ Below w.heap.size w w' := by
  obtain ⟨x0, x1, x2, x3, x4, x5, x6, x7, x8, x9, x10, x11, x12, x13, x14, x15, x16, p, pc⟩ := s
  have HT := _root_.Go.Lib.hid hT
  clear hT
  have k0 := (KW.start (Below.refl w.heap.size w) (Nat.le_refl _)).push (St.q ⟨x0, x1, x2, x3, x4, x5, x6, x7, x8, x9, x10, x11, x12, x13, x14, x15, x16, p, pc⟩)
  have H0 := _root_.Go.Lib.hid k0
  clear k0
  have HR := _root_.Go.Lib.hid hr
  clear hr
  go_enter Tryd.func6, Tryd.ntmps6
  go_wp2_with fail
  refine (alive_calls _ (HT.out.below H0.out.bel HT.out.pos)).mono ?_
  rintro e w1 ⟨rfl, hb⟩
  have k := H0.out.grown hb
  clear hb H0
  have H1 := _root_.Go.Lib.hid k
  clear k
  go_wp2_with ((with_reducible apply wpList_load_at 27 Tryd.underlying27); rfl; exact H1.out.get (g := w.heap.size) (o := St.q ⟨x0, x1, x2, x3, x4, x5, x6, x7, x8, x9, x10, x11, x12, x13, x14, x15, x16, p, pc⟩) (by simp); rfl; exact size27)
  refine (wrong_calls ⟨x0, x1, x2, x3, x4, x5, x6, x7, x8, x9, x10, x11, x12, x13, x14, x15, x16, p, pc⟩ HR.out _).mono ?_
  rintro e w2 ⟨rfl, hb⟩
  have k := H1.out.grown hb
  clear hb H1
  have H2 := _root_.Go.Lib.hid k
  clear k
  go_wp2
  go_ret
  exact ⟨rfl, H2.out.bel⟩
set_option maxRecDepth 100000 in
set_option maxHeartbeats 1600000 in
theorem tquiet_none (s : St) (hr : Right s) (hq : sPend s = (0, false)) (w : World) (hT : Tab w) : Calls Tryd.prog 6 #[.agg s.r] w fun e w' => e = .returned (.bool true) ∧ Below w.heap.size w w' := by
  obtain ⟨x0, x1, x2, x3, x4, x5, x6, x7, x8, x9, x10, x11, x12, x13, x14, x15, x16, p, pc⟩ := s
  have p1 : ∀ w, Tab w → Calls Tryd.prog 12 #[.agg (St.r ⟨x0, x1, x2, x3, x4, x5, x6, x7, x8, x9, x10, x11, x12, x13, x14, x15, x16, p, pc⟩)] w fun e w' => e = .returned (.tuple #[.int .u32 0, .bool false]) ∧ Below w.heap.size w w' := by
    intro w h
    have := pending_calls ⟨x0, x1, x2, x3, x4, x5, x6, x7, x8, x9, x10, x11, x12, x13, x14, x15, x16, p, pc⟩ hr w h
    rw [hq] at this
    exact this
  have P1 := _root_.Go.Lib.hid p1
  clear p1 hq
  have HT := _root_.Go.Lib.hid hT
  clear hT
  have k0 := (KW.start (Below.refl w.heap.size w) (Nat.le_refl _)).push (St.q ⟨x0, x1, x2, x3, x4, x5, x6, x7, x8, x9, x10, x11, x12, x13, x14, x15, x16, p, pc⟩)
  have H0 := _root_.Go.Lib.hid k0
  clear k0
  have HR := _root_.Go.Lib.hid hr
  clear hr
  go_enter Tryd.func6, Tryd.ntmps6
  go_wp2_with fail
  refine (alive_calls _ (HT.out.below H0.out.bel HT.out.pos)).mono ?_
  rintro e w1 ⟨rfl, hb⟩
  have k := H0.out.grown hb
  clear hb H0
  have H1 := _root_.Go.Lib.hid k
  clear k
  go_wp2_with ((with_reducible apply wpList_load_at 27 Tryd.underlying27); rfl; exact H1.out.get (g := w.heap.size) (o := St.q ⟨x0, x1, x2, x3, x4, x5, x6, x7, x8, x9, x10, x11, x12, x13, x14, x15, x16, p, pc⟩) (by simp); rfl; exact size27)
  refine (right_calls ⟨x0, x1, x2, x3, x4, x5, x6, x7, x8, x9, x10, x11, x12, x13, x14, x15, x16, p, pc⟩ HR.out _).mono ?_
  rintro e w2 ⟨rfl, hb⟩
  have k := H1.out.grown hb
  clear hb H1
  have H2 := _root_.Go.Lib.hid k
  clear k
  go_wp2_with ((with_reducible apply wpList_load_at 27 Tryd.underlying27); rfl; exact H2.out.get (g := w.heap.size) (o := St.q ⟨x0, x1, x2, x3, x4, x5, x6, x7, x8, x9, x10, x11, x12, x13, x14, x15, x16, p, pc⟩) (by simp); rfl; exact size27)
  refine (theirs_calls ⟨x0, x1, x2, x3, x4, x5, x6, x7, x8, x9, x10, x11, x12, x13, x14, x15, x16, p, pc⟩ _).mono ?_
  rintro e w3 ⟨rfl, hb⟩
  have k := H2.out.grown hb
  clear hb H2
  have H3 := _root_.Go.Lib.hid k
  clear k
  go_wp2_with fail
  refine (P1.out _ (HT.out.below H3.out.bel HT.out.pos)).mono ?_
  rintro e w4 ⟨rfl, hb⟩
  have k := H3.out.grown hb
  clear hb H3
  have H4 := _root_.Go.Lib.hid k
  clear k
  go_wp2
  go_ret
  exact ⟨rfl, H4.out.bel⟩
set_option maxRecDepth 100000 in
set_option maxHeartbeats 1600000 in
theorem tquiet_11 (s : St) (hr : Right s) (hi : (sPend s).2 = true) (hq : Quiet s 11 2048 2147483659) (w : World) (hT : Tab w) : Calls Tryd.prog 6 #[.agg s.r] w fun e w' => e = .returned (.bool true) ∧ Below w.heap.size w w' := by
  obtain ⟨h1, h4, h3, ht, hn⟩ := hq
  have tk := fun w => take_calls s 2147483659 0 w
  generalize sTake s 2147483659 0 = T at ht hn tk
  obtain ⟨t0, t1, t2, t3, t4, t5, t6, t7, t8, t9, t10, t11, t12, t13, t14, t15, t16, tp, tpc⟩ := T
  obtain ⟨x0, x1, x2, x3, x4, x5, x6, x7, x8, x9, x10, x11, x12, x13, x14, x15, x16, p, pc⟩ := s
  have p1 : ∀ w, Tab w → Calls Tryd.prog 12 #[.agg (St.r ⟨x0, x1, x2, x3, x4, x5, x6, x7, x8, x9, x10, x11, x12, x13, x14, x15, x16, p, pc⟩)] w fun e w' => e = .returned (.tuple #[.int .u32 2147483659, .bool true]) ∧ Below w.heap.size w w' := by
    intro w h
    have := pending_calls ⟨x0, x1, x2, x3, x4, x5, x6, x7, x8, x9, x10, x11, x12, x13, x14, x15, x16, p, pc⟩ hr w h
    rw [h1, hi] at this
    exact this
  have p2 : ∀ w, Tab w → Calls Tryd.prog 12 #[.agg (St.r ⟨t0, t1, t2, t3, t4, t5, t6, t7, t8, t9, t10, t11, t12, t13, t14, t15, t16, tp, tpc⟩)] w fun e w' => e = .returned (.tuple #[.int .u32 (sPend ⟨t0, t1, t2, t3, t4, t5, t6, t7, t8, t9, t10, t11, t12, t13, t14, t15, t16, tp, tpc⟩).1, .bool false]) ∧ Below w.heap.size w w' := by
    intro w h
    have := pending_calls ⟨t0, t1, t2, t3, t4, t5, t6, t7, t8, t9, t10, t11, t12, t13, t14, t15, t16, tp, tpc⟩ ht w h
    rw [hn] at this
    exact this
  generalize (sPend ⟨t0, t1, t2, t3, t4, t5, t6, t7, t8, t9, t10, t11, t12, t13, t14, t15, t16, tp, tpc⟩).1 = r2 at p2
  have g4 : bits .and .u32 (x4 / 2048) 1 = 1 := h4
  have g3 : bits .and .u32 (x3 / 2048) 1 = 1 := h3
  have gn : bits .and .u32 2147483659 31 = 11 := by kernel_rfl
  have P1 := _root_.Go.Lib.hid p1
  have P2 := _root_.Go.Lib.hid p2
  have TK := _root_.Go.Lib.hid tk
  have G := _root_.Go.Lib.hid (And.intro g4 (And.intro g3 gn))
  clear p1 p2 tk g4 g3 gn h1 h4 h3 ht hn hi
  have HT := _root_.Go.Lib.hid hT
  clear hT
  have k0 := (KW.start (Below.refl w.heap.size w) (Nat.le_refl _)).push (St.q ⟨x0, x1, x2, x3, x4, x5, x6, x7, x8, x9, x10, x11, x12, x13, x14, x15, x16, p, pc⟩)
  have H0 := _root_.Go.Lib.hid k0
  clear k0
  have HR := _root_.Go.Lib.hid hr
  clear hr
  go_enter Tryd.func6, Tryd.ntmps6
  go_wp2_with fail
  refine (alive_calls _ (HT.out.below H0.out.bel HT.out.pos)).mono ?_
  rintro e w1 ⟨rfl, hb⟩
  have k := H0.out.grown hb
  clear hb H0
  have H1 := _root_.Go.Lib.hid k
  clear k
  go_wp2_with ((with_reducible apply wpList_load_at 27 Tryd.underlying27); rfl; exact H1.out.get (g := w.heap.size) (o := St.q ⟨x0, x1, x2, x3, x4, x5, x6, x7, x8, x9, x10, x11, x12, x13, x14, x15, x16, p, pc⟩) (by simp); rfl; exact size27)
  refine (right_calls ⟨x0, x1, x2, x3, x4, x5, x6, x7, x8, x9, x10, x11, x12, x13, x14, x15, x16, p, pc⟩ HR.out _).mono ?_
  rintro e w2 ⟨rfl, hb⟩
  have k := H1.out.grown hb
  clear hb H1
  have H2 := _root_.Go.Lib.hid k
  clear k
  go_wp2_with ((with_reducible apply wpList_load_at 27 Tryd.underlying27); rfl; exact H2.out.get (g := w.heap.size) (o := St.q ⟨x0, x1, x2, x3, x4, x5, x6, x7, x8, x9, x10, x11, x12, x13, x14, x15, x16, p, pc⟩) (by simp); rfl; exact size27)
  refine (theirs_calls ⟨x0, x1, x2, x3, x4, x5, x6, x7, x8, x9, x10, x11, x12, x13, x14, x15, x16, p, pc⟩ _).mono ?_
  rintro e w3 ⟨rfl, hb⟩
  have k := H2.out.grown hb
  clear hb H2
  have H3 := _root_.Go.Lib.hid k
  clear k
  go_wp2_with fail
  refine (P1.out _ (HT.out.below H3.out.bel HT.out.pos)).mono ?_
  rintro e w4 ⟨rfl, hb⟩
  have k := H3.out.grown hb
  clear hb H3
  have H4 := _root_.Go.Lib.hid k
  clear k
  obtain ⟨g4, g3, gn⟩ := G.out
  have m4 : w4.cell? ⟨w.heap.size, 4, none⟩ = some (.int .u32 x4) := cell_at (H4.out.get (g := w.heap.size) (o := St.q ⟨x0, x1, x2, x3, x4, x5, x6, x7, x8, x9, x10, x11, x12, x13, x14, x15, x16, p, pc⟩) (by simp)) 4
  have m3 : w4.cell? ⟨w.heap.size, 3, none⟩ = some (.int .u32 x3) := cell_at (H4.out.get (g := w.heap.size) (o := St.q ⟨x0, x1, x2, x3, x4, x5, x6, x7, x8, x9, x10, x11, x12, x13, x14, x15, x16, p, pc⟩) (by simp)) 3
  go_wp2_with ((with_reducible apply wpList_load_at 27 Tryd.underlying27); rfl; exact H4.out.get (g := w.heap.size) (o := St.q ⟨x0, x1, x2, x3, x4, x5, x6, x7, x8, x9, x10, x11, x12, x13, x14, x15, x16, p, pc⟩) (by simp); rfl; exact size27)
  refine (theirs_calls ⟨x0, x1, x2, x3, x4, x5, x6, x7, x8, x9, x10, x11, x12, x13, x14, x15, x16, p, pc⟩ _).mono ?_
  rintro e w5 ⟨rfl, hb⟩
  have k := H4.out.grown hb
  clear hb H4
  have H5 := _root_.Go.Lib.hid k
  clear k
  clear m4 m3
  go_wp2_with fail
  refine (TK.out _).mono ?_
  rintro e w6 ⟨rfl, hb⟩
  have k := H5.out.grown hb
  clear hb H5
  have H6 := _root_.Go.Lib.hid k
  clear k
  have k := H6.out.push resO
  have P := _root_.Go.Lib.hid k
  clear k
  go_upto_region 12 with ((with_reducible apply wpList_store_at 32); rfl; rfl; (exact P.out.get (g := w6.heap.size) (o := resO) (by simp)); exact size32; rfl; rfl; rfl; (have h := KW.row (vs := St.r ⟨t0, t1, t2, t3, t4, t5, t6, t7, t8, t9, t10, t11, t12, t13, t14, t15, t16, tp, tpc⟩) P.out); (generalize World.setRow _ (World.heap w6).size _ = w7 at h ⊢))
  generalize (World.heap w6).size = g1 at h ⊢
  clear P H6 w6
  have H7 := _root_.Go.Lib.hid h
  clear h
  go_wp2_with ((with_reducible apply wpList_load_at 32 Tryd.underlying32); rfl; exact H7.out.get (g := g1) (o := St.o ⟨t0, t1, t2, t3, t4, t5, t6, t7, t8, t9, t10, t11, t12, t13, t14, t15, t16, tp, tpc⟩) (by simp); rfl; exact size32)
  refine (P2.out _ (HT.out.below H7.out.bel HT.out.pos)).mono ?_
  rintro e w8 ⟨rfl, hb⟩
  have k := H7.out.grown hb
  clear hb H7
  have H8 := _root_.Go.Lib.hid k
  clear k
  go_wp2
  go_ret
  exact ⟨rfl, H8.out.bel⟩
set_option maxRecDepth 100000 in
set_option maxHeartbeats 1600000 in
theorem tquiet_3 (s : St) (hr : Right s) (hi : (sPend s).2 = true) (hq : Quiet s 3 8 2147483651) (w : World) (hT : Tab w) : Calls Tryd.prog 6 #[.agg s.r] w fun e w' => e = .returned (.bool true) ∧ Below w.heap.size w w' := by
  obtain ⟨h1, h4, h3, ht, hn⟩ := hq
  have tk := fun w => take_calls s 2147483651 0 w
  generalize sTake s 2147483651 0 = T at ht hn tk
  obtain ⟨t0, t1, t2, t3, t4, t5, t6, t7, t8, t9, t10, t11, t12, t13, t14, t15, t16, tp, tpc⟩ := T
  obtain ⟨x0, x1, x2, x3, x4, x5, x6, x7, x8, x9, x10, x11, x12, x13, x14, x15, x16, p, pc⟩ := s
  have p1 : ∀ w, Tab w → Calls Tryd.prog 12 #[.agg (St.r ⟨x0, x1, x2, x3, x4, x5, x6, x7, x8, x9, x10, x11, x12, x13, x14, x15, x16, p, pc⟩)] w fun e w' => e = .returned (.tuple #[.int .u32 2147483651, .bool true]) ∧ Below w.heap.size w w' := by
    intro w h
    have := pending_calls ⟨x0, x1, x2, x3, x4, x5, x6, x7, x8, x9, x10, x11, x12, x13, x14, x15, x16, p, pc⟩ hr w h
    rw [h1, hi] at this
    exact this
  have p2 : ∀ w, Tab w → Calls Tryd.prog 12 #[.agg (St.r ⟨t0, t1, t2, t3, t4, t5, t6, t7, t8, t9, t10, t11, t12, t13, t14, t15, t16, tp, tpc⟩)] w fun e w' => e = .returned (.tuple #[.int .u32 (sPend ⟨t0, t1, t2, t3, t4, t5, t6, t7, t8, t9, t10, t11, t12, t13, t14, t15, t16, tp, tpc⟩).1, .bool false]) ∧ Below w.heap.size w w' := by
    intro w h
    have := pending_calls ⟨t0, t1, t2, t3, t4, t5, t6, t7, t8, t9, t10, t11, t12, t13, t14, t15, t16, tp, tpc⟩ ht w h
    rw [hn] at this
    exact this
  generalize (sPend ⟨t0, t1, t2, t3, t4, t5, t6, t7, t8, t9, t10, t11, t12, t13, t14, t15, t16, tp, tpc⟩).1 = r2 at p2
  have g4 : bits .and .u32 (x4 / 8) 1 = 1 := h4
  have g3 : bits .and .u32 (x3 / 8) 1 = 1 := h3
  have gn : bits .and .u32 2147483651 31 = 3 := by kernel_rfl
  have P1 := _root_.Go.Lib.hid p1
  have P2 := _root_.Go.Lib.hid p2
  have TK := _root_.Go.Lib.hid tk
  have G := _root_.Go.Lib.hid (And.intro g4 (And.intro g3 gn))
  clear p1 p2 tk g4 g3 gn h1 h4 h3 ht hn hi
  have HT := _root_.Go.Lib.hid hT
  clear hT
  have k0 := (KW.start (Below.refl w.heap.size w) (Nat.le_refl _)).push (St.q ⟨x0, x1, x2, x3, x4, x5, x6, x7, x8, x9, x10, x11, x12, x13, x14, x15, x16, p, pc⟩)
  have H0 := _root_.Go.Lib.hid k0
  clear k0
  have HR := _root_.Go.Lib.hid hr
  clear hr
  go_enter Tryd.func6, Tryd.ntmps6
  go_wp2_with fail
  refine (alive_calls _ (HT.out.below H0.out.bel HT.out.pos)).mono ?_
  rintro e w1 ⟨rfl, hb⟩
  have k := H0.out.grown hb
  clear hb H0
  have H1 := _root_.Go.Lib.hid k
  clear k
  go_wp2_with ((with_reducible apply wpList_load_at 27 Tryd.underlying27); rfl; exact H1.out.get (g := w.heap.size) (o := St.q ⟨x0, x1, x2, x3, x4, x5, x6, x7, x8, x9, x10, x11, x12, x13, x14, x15, x16, p, pc⟩) (by simp); rfl; exact size27)
  refine (right_calls ⟨x0, x1, x2, x3, x4, x5, x6, x7, x8, x9, x10, x11, x12, x13, x14, x15, x16, p, pc⟩ HR.out _).mono ?_
  rintro e w2 ⟨rfl, hb⟩
  have k := H1.out.grown hb
  clear hb H1
  have H2 := _root_.Go.Lib.hid k
  clear k
  go_wp2_with ((with_reducible apply wpList_load_at 27 Tryd.underlying27); rfl; exact H2.out.get (g := w.heap.size) (o := St.q ⟨x0, x1, x2, x3, x4, x5, x6, x7, x8, x9, x10, x11, x12, x13, x14, x15, x16, p, pc⟩) (by simp); rfl; exact size27)
  refine (theirs_calls ⟨x0, x1, x2, x3, x4, x5, x6, x7, x8, x9, x10, x11, x12, x13, x14, x15, x16, p, pc⟩ _).mono ?_
  rintro e w3 ⟨rfl, hb⟩
  have k := H2.out.grown hb
  clear hb H2
  have H3 := _root_.Go.Lib.hid k
  clear k
  go_wp2_with fail
  refine (P1.out _ (HT.out.below H3.out.bel HT.out.pos)).mono ?_
  rintro e w4 ⟨rfl, hb⟩
  have k := H3.out.grown hb
  clear hb H3
  have H4 := _root_.Go.Lib.hid k
  clear k
  obtain ⟨g4, g3, gn⟩ := G.out
  have m4 : w4.cell? ⟨w.heap.size, 4, none⟩ = some (.int .u32 x4) := cell_at (H4.out.get (g := w.heap.size) (o := St.q ⟨x0, x1, x2, x3, x4, x5, x6, x7, x8, x9, x10, x11, x12, x13, x14, x15, x16, p, pc⟩) (by simp)) 4
  have m3 : w4.cell? ⟨w.heap.size, 3, none⟩ = some (.int .u32 x3) := cell_at (H4.out.get (g := w.heap.size) (o := St.q ⟨x0, x1, x2, x3, x4, x5, x6, x7, x8, x9, x10, x11, x12, x13, x14, x15, x16, p, pc⟩) (by simp)) 3
  go_wp2_with ((with_reducible apply wpList_load_at 27 Tryd.underlying27); rfl; exact H4.out.get (g := w.heap.size) (o := St.q ⟨x0, x1, x2, x3, x4, x5, x6, x7, x8, x9, x10, x11, x12, x13, x14, x15, x16, p, pc⟩) (by simp); rfl; exact size27)
  refine (theirs_calls ⟨x0, x1, x2, x3, x4, x5, x6, x7, x8, x9, x10, x11, x12, x13, x14, x15, x16, p, pc⟩ _).mono ?_
  rintro e w5 ⟨rfl, hb⟩
  have k := H4.out.grown hb
  clear hb H4
  have H5 := _root_.Go.Lib.hid k
  clear k
  clear m4 m3
  go_wp2_with fail
  refine (TK.out _).mono ?_
  rintro e w6 ⟨rfl, hb⟩
  have k := H5.out.grown hb
  clear hb H5
  have H6 := _root_.Go.Lib.hid k
  clear k
  have k := H6.out.push resO
  have P := _root_.Go.Lib.hid k
  clear k
  go_upto_region 12 with ((with_reducible apply wpList_store_at 32); rfl; rfl; (exact P.out.get (g := w6.heap.size) (o := resO) (by simp)); exact size32; rfl; rfl; rfl; (have h := KW.row (vs := St.r ⟨t0, t1, t2, t3, t4, t5, t6, t7, t8, t9, t10, t11, t12, t13, t14, t15, t16, tp, tpc⟩) P.out); (generalize World.setRow _ (World.heap w6).size _ = w7 at h ⊢))
  generalize (World.heap w6).size = g1 at h ⊢
  clear P H6 w6
  have H7 := _root_.Go.Lib.hid h
  clear h
  go_wp2_with ((with_reducible apply wpList_load_at 32 Tryd.underlying32); rfl; exact H7.out.get (g := g1) (o := St.o ⟨t0, t1, t2, t3, t4, t5, t6, t7, t8, t9, t10, t11, t12, t13, t14, t15, t16, tp, tpc⟩) (by simp); rfl; exact size32)
  refine (P2.out _ (HT.out.below H7.out.bel HT.out.pos)).mono ?_
  rintro e w8 ⟨rfl, hb⟩
  have k := H7.out.grown hb
  clear hb H7
  have H8 := _root_.Go.Lib.hid k
  clear k
  go_wp2
  go_ret
  exact ⟨rfl, H8.out.bel⟩
set_option maxRecDepth 100000 in
set_option maxHeartbeats 1600000 in
theorem tquiet_7 (s : St) (hr : Right s) (hi : (sPend s).2 = true) (hq : Quiet s 7 128 2147483655) (w : World) (hT : Tab w) : Calls Tryd.prog 6 #[.agg s.r] w fun e w' => e = .returned (.bool true) ∧ Below w.heap.size w w' := by
  obtain ⟨h1, h4, h3, ht, hn⟩ := hq
  have tk := fun w => take_calls s 2147483655 0 w
  generalize sTake s 2147483655 0 = T at ht hn tk
  obtain ⟨t0, t1, t2, t3, t4, t5, t6, t7, t8, t9, t10, t11, t12, t13, t14, t15, t16, tp, tpc⟩ := T
  obtain ⟨x0, x1, x2, x3, x4, x5, x6, x7, x8, x9, x10, x11, x12, x13, x14, x15, x16, p, pc⟩ := s
  have p1 : ∀ w, Tab w → Calls Tryd.prog 12 #[.agg (St.r ⟨x0, x1, x2, x3, x4, x5, x6, x7, x8, x9, x10, x11, x12, x13, x14, x15, x16, p, pc⟩)] w fun e w' => e = .returned (.tuple #[.int .u32 2147483655, .bool true]) ∧ Below w.heap.size w w' := by
    intro w h
    have := pending_calls ⟨x0, x1, x2, x3, x4, x5, x6, x7, x8, x9, x10, x11, x12, x13, x14, x15, x16, p, pc⟩ hr w h
    rw [h1, hi] at this
    exact this
  have p2 : ∀ w, Tab w → Calls Tryd.prog 12 #[.agg (St.r ⟨t0, t1, t2, t3, t4, t5, t6, t7, t8, t9, t10, t11, t12, t13, t14, t15, t16, tp, tpc⟩)] w fun e w' => e = .returned (.tuple #[.int .u32 (sPend ⟨t0, t1, t2, t3, t4, t5, t6, t7, t8, t9, t10, t11, t12, t13, t14, t15, t16, tp, tpc⟩).1, .bool false]) ∧ Below w.heap.size w w' := by
    intro w h
    have := pending_calls ⟨t0, t1, t2, t3, t4, t5, t6, t7, t8, t9, t10, t11, t12, t13, t14, t15, t16, tp, tpc⟩ ht w h
    rw [hn] at this
    exact this
  generalize (sPend ⟨t0, t1, t2, t3, t4, t5, t6, t7, t8, t9, t10, t11, t12, t13, t14, t15, t16, tp, tpc⟩).1 = r2 at p2
  have g4 : bits .and .u32 (x4 / 128) 1 = 1 := h4
  have g3 : bits .and .u32 (x3 / 128) 1 = 1 := h3
  have gn : bits .and .u32 2147483655 31 = 7 := by kernel_rfl
  have P1 := _root_.Go.Lib.hid p1
  have P2 := _root_.Go.Lib.hid p2
  have TK := _root_.Go.Lib.hid tk
  have G := _root_.Go.Lib.hid (And.intro g4 (And.intro g3 gn))
  clear p1 p2 tk g4 g3 gn h1 h4 h3 ht hn hi
  have HT := _root_.Go.Lib.hid hT
  clear hT
  have k0 := (KW.start (Below.refl w.heap.size w) (Nat.le_refl _)).push (St.q ⟨x0, x1, x2, x3, x4, x5, x6, x7, x8, x9, x10, x11, x12, x13, x14, x15, x16, p, pc⟩)
  have H0 := _root_.Go.Lib.hid k0
  clear k0
  have HR := _root_.Go.Lib.hid hr
  clear hr
  go_enter Tryd.func6, Tryd.ntmps6
  go_wp2_with fail
  refine (alive_calls _ (HT.out.below H0.out.bel HT.out.pos)).mono ?_
  rintro e w1 ⟨rfl, hb⟩
  have k := H0.out.grown hb
  clear hb H0
  have H1 := _root_.Go.Lib.hid k
  clear k
  go_wp2_with ((with_reducible apply wpList_load_at 27 Tryd.underlying27); rfl; exact H1.out.get (g := w.heap.size) (o := St.q ⟨x0, x1, x2, x3, x4, x5, x6, x7, x8, x9, x10, x11, x12, x13, x14, x15, x16, p, pc⟩) (by simp); rfl; exact size27)
  refine (right_calls ⟨x0, x1, x2, x3, x4, x5, x6, x7, x8, x9, x10, x11, x12, x13, x14, x15, x16, p, pc⟩ HR.out _).mono ?_
  rintro e w2 ⟨rfl, hb⟩
  have k := H1.out.grown hb
  clear hb H1
  have H2 := _root_.Go.Lib.hid k
  clear k
  go_wp2_with ((with_reducible apply wpList_load_at 27 Tryd.underlying27); rfl; exact H2.out.get (g := w.heap.size) (o := St.q ⟨x0, x1, x2, x3, x4, x5, x6, x7, x8, x9, x10, x11, x12, x13, x14, x15, x16, p, pc⟩) (by simp); rfl; exact size27)
  refine (theirs_calls ⟨x0, x1, x2, x3, x4, x5, x6, x7, x8, x9, x10, x11, x12, x13, x14, x15, x16, p, pc⟩ _).mono ?_
  rintro e w3 ⟨rfl, hb⟩
  have k := H2.out.grown hb
  clear hb H2
  have H3 := _root_.Go.Lib.hid k
  clear k
  go_wp2_with fail
  refine (P1.out _ (HT.out.below H3.out.bel HT.out.pos)).mono ?_
  rintro e w4 ⟨rfl, hb⟩
  have k := H3.out.grown hb
  clear hb H3
  have H4 := _root_.Go.Lib.hid k
  clear k
  obtain ⟨g4, g3, gn⟩ := G.out
  have m4 : w4.cell? ⟨w.heap.size, 4, none⟩ = some (.int .u32 x4) := cell_at (H4.out.get (g := w.heap.size) (o := St.q ⟨x0, x1, x2, x3, x4, x5, x6, x7, x8, x9, x10, x11, x12, x13, x14, x15, x16, p, pc⟩) (by simp)) 4
  have m3 : w4.cell? ⟨w.heap.size, 3, none⟩ = some (.int .u32 x3) := cell_at (H4.out.get (g := w.heap.size) (o := St.q ⟨x0, x1, x2, x3, x4, x5, x6, x7, x8, x9, x10, x11, x12, x13, x14, x15, x16, p, pc⟩) (by simp)) 3
  go_wp2_with ((with_reducible apply wpList_load_at 27 Tryd.underlying27); rfl; exact H4.out.get (g := w.heap.size) (o := St.q ⟨x0, x1, x2, x3, x4, x5, x6, x7, x8, x9, x10, x11, x12, x13, x14, x15, x16, p, pc⟩) (by simp); rfl; exact size27)
  refine (theirs_calls ⟨x0, x1, x2, x3, x4, x5, x6, x7, x8, x9, x10, x11, x12, x13, x14, x15, x16, p, pc⟩ _).mono ?_
  rintro e w5 ⟨rfl, hb⟩
  have k := H4.out.grown hb
  clear hb H4
  have H5 := _root_.Go.Lib.hid k
  clear k
  clear m4 m3
  go_wp2_with fail
  refine (TK.out _).mono ?_
  rintro e w6 ⟨rfl, hb⟩
  have k := H5.out.grown hb
  clear hb H5
  have H6 := _root_.Go.Lib.hid k
  clear k
  have k := H6.out.push resO
  have P := _root_.Go.Lib.hid k
  clear k
  go_upto_region 12 with ((with_reducible apply wpList_store_at 32); rfl; rfl; (exact P.out.get (g := w6.heap.size) (o := resO) (by simp)); exact size32; rfl; rfl; rfl; (have h := KW.row (vs := St.r ⟨t0, t1, t2, t3, t4, t5, t6, t7, t8, t9, t10, t11, t12, t13, t14, t15, t16, tp, tpc⟩) P.out); (generalize World.setRow _ (World.heap w6).size _ = w7 at h ⊢))
  generalize (World.heap w6).size = g1 at h ⊢
  clear P H6 w6
  have H7 := _root_.Go.Lib.hid h
  clear h
  go_wp2_with ((with_reducible apply wpList_load_at 32 Tryd.underlying32); rfl; exact H7.out.get (g := g1) (o := St.o ⟨t0, t1, t2, t3, t4, t5, t6, t7, t8, t9, t10, t11, t12, t13, t14, t15, t16, tp, tpc⟩) (by simp); rfl; exact size32)
  refine (P2.out _ (HT.out.below H7.out.bel HT.out.pos)).mono ?_
  rintro e w8 ⟨rfl, hb⟩
  have k := H7.out.grown hb
  clear hb H7
  have H8 := _root_.Go.Lib.hid k
  clear k
  go_wp2
  go_ret
  exact ⟨rfl, H8.out.bel⟩
set_option maxRecDepth 100000 in
set_option maxHeartbeats 1600000 in
theorem tquiet_9 (s : St) (hr : Right s) (hi : (sPend s).2 = true) (hq : Quiet s 9 512 2147483657) (w : World) (hT : Tab w) : Calls Tryd.prog 6 #[.agg s.r] w fun e w' => e = .returned (.bool true) ∧ Below w.heap.size w w' := by
  obtain ⟨h1, h4, h3, ht, hn⟩ := hq
  have tk := fun w => take_calls s 2147483657 0 w
  generalize sTake s 2147483657 0 = T at ht hn tk
  obtain ⟨t0, t1, t2, t3, t4, t5, t6, t7, t8, t9, t10, t11, t12, t13, t14, t15, t16, tp, tpc⟩ := T
  obtain ⟨x0, x1, x2, x3, x4, x5, x6, x7, x8, x9, x10, x11, x12, x13, x14, x15, x16, p, pc⟩ := s
  have p1 : ∀ w, Tab w → Calls Tryd.prog 12 #[.agg (St.r ⟨x0, x1, x2, x3, x4, x5, x6, x7, x8, x9, x10, x11, x12, x13, x14, x15, x16, p, pc⟩)] w fun e w' => e = .returned (.tuple #[.int .u32 2147483657, .bool true]) ∧ Below w.heap.size w w' := by
    intro w h
    have := pending_calls ⟨x0, x1, x2, x3, x4, x5, x6, x7, x8, x9, x10, x11, x12, x13, x14, x15, x16, p, pc⟩ hr w h
    rw [h1, hi] at this
    exact this
  have p2 : ∀ w, Tab w → Calls Tryd.prog 12 #[.agg (St.r ⟨t0, t1, t2, t3, t4, t5, t6, t7, t8, t9, t10, t11, t12, t13, t14, t15, t16, tp, tpc⟩)] w fun e w' => e = .returned (.tuple #[.int .u32 (sPend ⟨t0, t1, t2, t3, t4, t5, t6, t7, t8, t9, t10, t11, t12, t13, t14, t15, t16, tp, tpc⟩).1, .bool false]) ∧ Below w.heap.size w w' := by
    intro w h
    have := pending_calls ⟨t0, t1, t2, t3, t4, t5, t6, t7, t8, t9, t10, t11, t12, t13, t14, t15, t16, tp, tpc⟩ ht w h
    rw [hn] at this
    exact this
  generalize (sPend ⟨t0, t1, t2, t3, t4, t5, t6, t7, t8, t9, t10, t11, t12, t13, t14, t15, t16, tp, tpc⟩).1 = r2 at p2
  have g4 : bits .and .u32 (x4 / 512) 1 = 1 := h4
  have g3 : bits .and .u32 (x3 / 512) 1 = 1 := h3
  have gn : bits .and .u32 2147483657 31 = 9 := by kernel_rfl
  have P1 := _root_.Go.Lib.hid p1
  have P2 := _root_.Go.Lib.hid p2
  have TK := _root_.Go.Lib.hid tk
  have G := _root_.Go.Lib.hid (And.intro g4 (And.intro g3 gn))
  clear p1 p2 tk g4 g3 gn h1 h4 h3 ht hn hi
  have HT := _root_.Go.Lib.hid hT
  clear hT
  have k0 := (KW.start (Below.refl w.heap.size w) (Nat.le_refl _)).push (St.q ⟨x0, x1, x2, x3, x4, x5, x6, x7, x8, x9, x10, x11, x12, x13, x14, x15, x16, p, pc⟩)
  have H0 := _root_.Go.Lib.hid k0
  clear k0
  have HR := _root_.Go.Lib.hid hr
  clear hr
  go_enter Tryd.func6, Tryd.ntmps6
  go_wp2_with fail
  refine (alive_calls _ (HT.out.below H0.out.bel HT.out.pos)).mono ?_
  rintro e w1 ⟨rfl, hb⟩
  have k := H0.out.grown hb
  clear hb H0
  have H1 := _root_.Go.Lib.hid k
  clear k
  go_wp2_with ((with_reducible apply wpList_load_at 27 Tryd.underlying27); rfl; exact H1.out.get (g := w.heap.size) (o := St.q ⟨x0, x1, x2, x3, x4, x5, x6, x7, x8, x9, x10, x11, x12, x13, x14, x15, x16, p, pc⟩) (by simp); rfl; exact size27)
  refine (right_calls ⟨x0, x1, x2, x3, x4, x5, x6, x7, x8, x9, x10, x11, x12, x13, x14, x15, x16, p, pc⟩ HR.out _).mono ?_
  rintro e w2 ⟨rfl, hb⟩
  have k := H1.out.grown hb
  clear hb H1
  have H2 := _root_.Go.Lib.hid k
  clear k
  go_wp2_with ((with_reducible apply wpList_load_at 27 Tryd.underlying27); rfl; exact H2.out.get (g := w.heap.size) (o := St.q ⟨x0, x1, x2, x3, x4, x5, x6, x7, x8, x9, x10, x11, x12, x13, x14, x15, x16, p, pc⟩) (by simp); rfl; exact size27)
  refine (theirs_calls ⟨x0, x1, x2, x3, x4, x5, x6, x7, x8, x9, x10, x11, x12, x13, x14, x15, x16, p, pc⟩ _).mono ?_
  rintro e w3 ⟨rfl, hb⟩
  have k := H2.out.grown hb
  clear hb H2
  have H3 := _root_.Go.Lib.hid k
  clear k
  go_wp2_with fail
  refine (P1.out _ (HT.out.below H3.out.bel HT.out.pos)).mono ?_
  rintro e w4 ⟨rfl, hb⟩
  have k := H3.out.grown hb
  clear hb H3
  have H4 := _root_.Go.Lib.hid k
  clear k
  obtain ⟨g4, g3, gn⟩ := G.out
  have m4 : w4.cell? ⟨w.heap.size, 4, none⟩ = some (.int .u32 x4) := cell_at (H4.out.get (g := w.heap.size) (o := St.q ⟨x0, x1, x2, x3, x4, x5, x6, x7, x8, x9, x10, x11, x12, x13, x14, x15, x16, p, pc⟩) (by simp)) 4
  have m3 : w4.cell? ⟨w.heap.size, 3, none⟩ = some (.int .u32 x3) := cell_at (H4.out.get (g := w.heap.size) (o := St.q ⟨x0, x1, x2, x3, x4, x5, x6, x7, x8, x9, x10, x11, x12, x13, x14, x15, x16, p, pc⟩) (by simp)) 3
  go_wp2_with ((with_reducible apply wpList_load_at 27 Tryd.underlying27); rfl; exact H4.out.get (g := w.heap.size) (o := St.q ⟨x0, x1, x2, x3, x4, x5, x6, x7, x8, x9, x10, x11, x12, x13, x14, x15, x16, p, pc⟩) (by simp); rfl; exact size27)
  refine (theirs_calls ⟨x0, x1, x2, x3, x4, x5, x6, x7, x8, x9, x10, x11, x12, x13, x14, x15, x16, p, pc⟩ _).mono ?_
  rintro e w5 ⟨rfl, hb⟩
  have k := H4.out.grown hb
  clear hb H4
  have H5 := _root_.Go.Lib.hid k
  clear k
  clear m4 m3
  go_wp2_with fail
  refine (TK.out _).mono ?_
  rintro e w6 ⟨rfl, hb⟩
  have k := H5.out.grown hb
  clear hb H5
  have H6 := _root_.Go.Lib.hid k
  clear k
  have k := H6.out.push resO
  have P := _root_.Go.Lib.hid k
  clear k
  go_upto_region 12 with ((with_reducible apply wpList_store_at 32); rfl; rfl; (exact P.out.get (g := w6.heap.size) (o := resO) (by simp)); exact size32; rfl; rfl; rfl; (have h := KW.row (vs := St.r ⟨t0, t1, t2, t3, t4, t5, t6, t7, t8, t9, t10, t11, t12, t13, t14, t15, t16, tp, tpc⟩) P.out); (generalize World.setRow _ (World.heap w6).size _ = w7 at h ⊢))
  generalize (World.heap w6).size = g1 at h ⊢
  clear P H6 w6
  have H7 := _root_.Go.Lib.hid h
  clear h
  go_wp2_with ((with_reducible apply wpList_load_at 32 Tryd.underlying32); rfl; exact H7.out.get (g := g1) (o := St.o ⟨t0, t1, t2, t3, t4, t5, t6, t7, t8, t9, t10, t11, t12, t13, t14, t15, t16, tp, tpc⟩) (by simp); rfl; exact size32)
  refine (P2.out _ (HT.out.below H7.out.bel HT.out.pos)).mono ?_
  rintro e w8 ⟨rfl, hb⟩
  have k := H7.out.grown hb
  clear hb H7
  have H8 := _root_.Go.Lib.hid k
  clear k
  go_wp2
  go_ret
  exact ⟨rfl, H8.out.bel⟩
set_option maxRecDepth 100000 in
set_option maxHeartbeats 1600000 in
theorem tquiet_1 (s : St) (hr : Right s) (hi : (sPend s).2 = true) (hq : Quiet s 1 2 2147483649) (w : World) (hT : Tab w) : Calls Tryd.prog 6 #[.agg s.r] w fun e w' => e = .returned (.bool true) ∧ Below w.heap.size w w' := by
  obtain ⟨h1, h4, h3, ht, hn⟩ := hq
  have tk := fun w => take_calls s 2147483649 0 w
  generalize sTake s 2147483649 0 = T at ht hn tk
  obtain ⟨t0, t1, t2, t3, t4, t5, t6, t7, t8, t9, t10, t11, t12, t13, t14, t15, t16, tp, tpc⟩ := T
  obtain ⟨x0, x1, x2, x3, x4, x5, x6, x7, x8, x9, x10, x11, x12, x13, x14, x15, x16, p, pc⟩ := s
  have p1 : ∀ w, Tab w → Calls Tryd.prog 12 #[.agg (St.r ⟨x0, x1, x2, x3, x4, x5, x6, x7, x8, x9, x10, x11, x12, x13, x14, x15, x16, p, pc⟩)] w fun e w' => e = .returned (.tuple #[.int .u32 2147483649, .bool true]) ∧ Below w.heap.size w w' := by
    intro w h
    have := pending_calls ⟨x0, x1, x2, x3, x4, x5, x6, x7, x8, x9, x10, x11, x12, x13, x14, x15, x16, p, pc⟩ hr w h
    rw [h1, hi] at this
    exact this
  have p2 : ∀ w, Tab w → Calls Tryd.prog 12 #[.agg (St.r ⟨t0, t1, t2, t3, t4, t5, t6, t7, t8, t9, t10, t11, t12, t13, t14, t15, t16, tp, tpc⟩)] w fun e w' => e = .returned (.tuple #[.int .u32 (sPend ⟨t0, t1, t2, t3, t4, t5, t6, t7, t8, t9, t10, t11, t12, t13, t14, t15, t16, tp, tpc⟩).1, .bool false]) ∧ Below w.heap.size w w' := by
    intro w h
    have := pending_calls ⟨t0, t1, t2, t3, t4, t5, t6, t7, t8, t9, t10, t11, t12, t13, t14, t15, t16, tp, tpc⟩ ht w h
    rw [hn] at this
    exact this
  generalize (sPend ⟨t0, t1, t2, t3, t4, t5, t6, t7, t8, t9, t10, t11, t12, t13, t14, t15, t16, tp, tpc⟩).1 = r2 at p2
  have g4 : bits .and .u32 (x4 / 2) 1 = 1 := h4
  have g3 : bits .and .u32 (x3 / 2) 1 = 1 := h3
  have gn : bits .and .u32 2147483649 31 = 1 := by kernel_rfl
  have P1 := _root_.Go.Lib.hid p1
  have P2 := _root_.Go.Lib.hid p2
  have TK := _root_.Go.Lib.hid tk
  have G := _root_.Go.Lib.hid (And.intro g4 (And.intro g3 gn))
  clear p1 p2 tk g4 g3 gn h1 h4 h3 ht hn hi
  have HT := _root_.Go.Lib.hid hT
  clear hT
  have k0 := (KW.start (Below.refl w.heap.size w) (Nat.le_refl _)).push (St.q ⟨x0, x1, x2, x3, x4, x5, x6, x7, x8, x9, x10, x11, x12, x13, x14, x15, x16, p, pc⟩)
  have H0 := _root_.Go.Lib.hid k0
  clear k0
  have HR := _root_.Go.Lib.hid hr
  clear hr
  go_enter Tryd.func6, Tryd.ntmps6
  go_wp2_with fail
  refine (alive_calls _ (HT.out.below H0.out.bel HT.out.pos)).mono ?_
  rintro e w1 ⟨rfl, hb⟩
  have k := H0.out.grown hb
  clear hb H0
  have H1 := _root_.Go.Lib.hid k
  clear k
  go_wp2_with ((with_reducible apply wpList_load_at 27 Tryd.underlying27); rfl; exact H1.out.get (g := w.heap.size) (o := St.q ⟨x0, x1, x2, x3, x4, x5, x6, x7, x8, x9, x10, x11, x12, x13, x14, x15, x16, p, pc⟩) (by simp); rfl; exact size27)
  refine (right_calls ⟨x0, x1, x2, x3, x4, x5, x6, x7, x8, x9, x10, x11, x12, x13, x14, x15, x16, p, pc⟩ HR.out _).mono ?_
  rintro e w2 ⟨rfl, hb⟩
  have k := H1.out.grown hb
  clear hb H1
  have H2 := _root_.Go.Lib.hid k
  clear k
  go_wp2_with ((with_reducible apply wpList_load_at 27 Tryd.underlying27); rfl; exact H2.out.get (g := w.heap.size) (o := St.q ⟨x0, x1, x2, x3, x4, x5, x6, x7, x8, x9, x10, x11, x12, x13, x14, x15, x16, p, pc⟩) (by simp); rfl; exact size27)
  refine (theirs_calls ⟨x0, x1, x2, x3, x4, x5, x6, x7, x8, x9, x10, x11, x12, x13, x14, x15, x16, p, pc⟩ _).mono ?_
  rintro e w3 ⟨rfl, hb⟩
  have k := H2.out.grown hb
  clear hb H2
  have H3 := _root_.Go.Lib.hid k
  clear k
  go_wp2_with fail
  refine (P1.out _ (HT.out.below H3.out.bel HT.out.pos)).mono ?_
  rintro e w4 ⟨rfl, hb⟩
  have k := H3.out.grown hb
  clear hb H3
  have H4 := _root_.Go.Lib.hid k
  clear k
  obtain ⟨g4, g3, gn⟩ := G.out
  have m4 : w4.cell? ⟨w.heap.size, 4, none⟩ = some (.int .u32 x4) := cell_at (H4.out.get (g := w.heap.size) (o := St.q ⟨x0, x1, x2, x3, x4, x5, x6, x7, x8, x9, x10, x11, x12, x13, x14, x15, x16, p, pc⟩) (by simp)) 4
  have m3 : w4.cell? ⟨w.heap.size, 3, none⟩ = some (.int .u32 x3) := cell_at (H4.out.get (g := w.heap.size) (o := St.q ⟨x0, x1, x2, x3, x4, x5, x6, x7, x8, x9, x10, x11, x12, x13, x14, x15, x16, p, pc⟩) (by simp)) 3
  go_wp2_with ((with_reducible apply wpList_load_at 27 Tryd.underlying27); rfl; exact H4.out.get (g := w.heap.size) (o := St.q ⟨x0, x1, x2, x3, x4, x5, x6, x7, x8, x9, x10, x11, x12, x13, x14, x15, x16, p, pc⟩) (by simp); rfl; exact size27)
  refine (theirs_calls ⟨x0, x1, x2, x3, x4, x5, x6, x7, x8, x9, x10, x11, x12, x13, x14, x15, x16, p, pc⟩ _).mono ?_
  rintro e w5 ⟨rfl, hb⟩
  have k := H4.out.grown hb
  clear hb H4
  have H5 := _root_.Go.Lib.hid k
  clear k
  clear m4 m3
  go_wp2_with fail
  refine (TK.out _).mono ?_
  rintro e w6 ⟨rfl, hb⟩
  have k := H5.out.grown hb
  clear hb H5
  have H6 := _root_.Go.Lib.hid k
  clear k
  have k := H6.out.push resO
  have P := _root_.Go.Lib.hid k
  clear k
  go_upto_region 12 with ((with_reducible apply wpList_store_at 32); rfl; rfl; (exact P.out.get (g := w6.heap.size) (o := resO) (by simp)); exact size32; rfl; rfl; rfl; (have h := KW.row (vs := St.r ⟨t0, t1, t2, t3, t4, t5, t6, t7, t8, t9, t10, t11, t12, t13, t14, t15, t16, tp, tpc⟩) P.out); (generalize World.setRow _ (World.heap w6).size _ = w7 at h ⊢))
  generalize (World.heap w6).size = g1 at h ⊢
  clear P H6 w6
  have H7 := _root_.Go.Lib.hid h
  clear h
  go_wp2_with ((with_reducible apply wpList_load_at 32 Tryd.underlying32); rfl; exact H7.out.get (g := g1) (o := St.o ⟨t0, t1, t2, t3, t4, t5, t6, t7, t8, t9, t10, t11, t12, t13, t14, t15, t16, tp, tpc⟩) (by simp); rfl; exact size32)
  refine (P2.out _ (HT.out.below H7.out.bel HT.out.pos)).mono ?_
  rintro e w8 ⟨rfl, hb⟩
  have k := H7.out.grown hb
  clear hb H7
  have H8 := _root_.Go.Lib.hid k
  clear k
  go_wp2
  go_ret
  exact ⟨rfl, H8.out.bel⟩
set_option maxRecDepth 100000 in
set_option maxHeartbeats 1600000 in
theorem tquiet_5 (s : St) (hr : Right s) (hi : (sPend s).2 = true) (hq : Quiet s 5 32 2147483653) (w : World) (hT : Tab w) : Calls Tryd.prog 6 #[.agg s.r] w fun e w' => e = .returned (.bool true) ∧ Below w.heap.size w w' := by
  obtain ⟨h1, h4, h3, ht, hn⟩ := hq
  have tk := fun w => take_calls s 2147483653 0 w
  generalize sTake s 2147483653 0 = T at ht hn tk
  obtain ⟨t0, t1, t2, t3, t4, t5, t6, t7, t8, t9, t10, t11, t12, t13, t14, t15, t16, tp, tpc⟩ := T
  obtain ⟨x0, x1, x2, x3, x4, x5, x6, x7, x8, x9, x10, x11, x12, x13, x14, x15, x16, p, pc⟩ := s
  have p1 : ∀ w, Tab w → Calls Tryd.prog 12 #[.agg (St.r ⟨x0, x1, x2, x3, x4, x5, x6, x7, x8, x9, x10, x11, x12, x13, x14, x15, x16, p, pc⟩)] w fun e w' => e = .returned (.tuple #[.int .u32 2147483653, .bool true]) ∧ Below w.heap.size w w' := by
    intro w h
    have := pending_calls ⟨x0, x1, x2, x3, x4, x5, x6, x7, x8, x9, x10, x11, x12, x13, x14, x15, x16, p, pc⟩ hr w h
    rw [h1, hi] at this
    exact this
  have p2 : ∀ w, Tab w → Calls Tryd.prog 12 #[.agg (St.r ⟨t0, t1, t2, t3, t4, t5, t6, t7, t8, t9, t10, t11, t12, t13, t14, t15, t16, tp, tpc⟩)] w fun e w' => e = .returned (.tuple #[.int .u32 (sPend ⟨t0, t1, t2, t3, t4, t5, t6, t7, t8, t9, t10, t11, t12, t13, t14, t15, t16, tp, tpc⟩).1, .bool false]) ∧ Below w.heap.size w w' := by
    intro w h
    have := pending_calls ⟨t0, t1, t2, t3, t4, t5, t6, t7, t8, t9, t10, t11, t12, t13, t14, t15, t16, tp, tpc⟩ ht w h
    rw [hn] at this
    exact this
  generalize (sPend ⟨t0, t1, t2, t3, t4, t5, t6, t7, t8, t9, t10, t11, t12, t13, t14, t15, t16, tp, tpc⟩).1 = r2 at p2
  have g4 : bits .and .u32 (x4 / 32) 1 = 1 := h4
  have g3 : bits .and .u32 (x3 / 32) 1 = 1 := h3
  have gn : bits .and .u32 2147483653 31 = 5 := by kernel_rfl
  have P1 := _root_.Go.Lib.hid p1
  have P2 := _root_.Go.Lib.hid p2
  have TK := _root_.Go.Lib.hid tk
  have G := _root_.Go.Lib.hid (And.intro g4 (And.intro g3 gn))
  clear p1 p2 tk g4 g3 gn h1 h4 h3 ht hn hi
  have HT := _root_.Go.Lib.hid hT
  clear hT
  have k0 := (KW.start (Below.refl w.heap.size w) (Nat.le_refl _)).push (St.q ⟨x0, x1, x2, x3, x4, x5, x6, x7, x8, x9, x10, x11, x12, x13, x14, x15, x16, p, pc⟩)
  have H0 := _root_.Go.Lib.hid k0
  clear k0
  have HR := _root_.Go.Lib.hid hr
  clear hr
  go_enter Tryd.func6, Tryd.ntmps6
  go_wp2_with fail
  refine (alive_calls _ (HT.out.below H0.out.bel HT.out.pos)).mono ?_
  rintro e w1 ⟨rfl, hb⟩
  have k := H0.out.grown hb
  clear hb H0
  have H1 := _root_.Go.Lib.hid k
  clear k
  go_wp2_with ((with_reducible apply wpList_load_at 27 Tryd.underlying27); rfl; exact H1.out.get (g := w.heap.size) (o := St.q ⟨x0, x1, x2, x3, x4, x5, x6, x7, x8, x9, x10, x11, x12, x13, x14, x15, x16, p, pc⟩) (by simp); rfl; exact size27)
  refine (right_calls ⟨x0, x1, x2, x3, x4, x5, x6, x7, x8, x9, x10, x11, x12, x13, x14, x15, x16, p, pc⟩ HR.out _).mono ?_
  rintro e w2 ⟨rfl, hb⟩
  have k := H1.out.grown hb
  clear hb H1
  have H2 := _root_.Go.Lib.hid k
  clear k
  go_wp2_with ((with_reducible apply wpList_load_at 27 Tryd.underlying27); rfl; exact H2.out.get (g := w.heap.size) (o := St.q ⟨x0, x1, x2, x3, x4, x5, x6, x7, x8, x9, x10, x11, x12, x13, x14, x15, x16, p, pc⟩) (by simp); rfl; exact size27)
  refine (theirs_calls ⟨x0, x1, x2, x3, x4, x5, x6, x7, x8, x9, x10, x11, x12, x13, x14, x15, x16, p, pc⟩ _).mono ?_
  rintro e w3 ⟨rfl, hb⟩
  have k := H2.out.grown hb
  clear hb H2
  have H3 := _root_.Go.Lib.hid k
  clear k
  go_wp2_with fail
  refine (P1.out _ (HT.out.below H3.out.bel HT.out.pos)).mono ?_
  rintro e w4 ⟨rfl, hb⟩
  have k := H3.out.grown hb
  clear hb H3
  have H4 := _root_.Go.Lib.hid k
  clear k
  obtain ⟨g4, g3, gn⟩ := G.out
  have m4 : w4.cell? ⟨w.heap.size, 4, none⟩ = some (.int .u32 x4) := cell_at (H4.out.get (g := w.heap.size) (o := St.q ⟨x0, x1, x2, x3, x4, x5, x6, x7, x8, x9, x10, x11, x12, x13, x14, x15, x16, p, pc⟩) (by simp)) 4
  have m3 : w4.cell? ⟨w.heap.size, 3, none⟩ = some (.int .u32 x3) := cell_at (H4.out.get (g := w.heap.size) (o := St.q ⟨x0, x1, x2, x3, x4, x5, x6, x7, x8, x9, x10, x11, x12, x13, x14, x15, x16, p, pc⟩) (by simp)) 3
  go_wp2_with ((with_reducible apply wpList_load_at 27 Tryd.underlying27); rfl; exact H4.out.get (g := w.heap.size) (o := St.q ⟨x0, x1, x2, x3, x4, x5, x6, x7, x8, x9, x10, x11, x12, x13, x14, x15, x16, p, pc⟩) (by simp); rfl; exact size27)
  refine (theirs_calls ⟨x0, x1, x2, x3, x4, x5, x6, x7, x8, x9, x10, x11, x12, x13, x14, x15, x16, p, pc⟩ _).mono ?_
  rintro e w5 ⟨rfl, hb⟩
  have k := H4.out.grown hb
  clear hb H4
  have H5 := _root_.Go.Lib.hid k
  clear k
  clear m4 m3
  go_wp2_with fail
  refine (TK.out _).mono ?_
  rintro e w6 ⟨rfl, hb⟩
  have k := H5.out.grown hb
  clear hb H5
  have H6 := _root_.Go.Lib.hid k
  clear k
  have k := H6.out.push resO
  have P := _root_.Go.Lib.hid k
  clear k
  go_upto_region 12 with ((with_reducible apply wpList_store_at 32); rfl; rfl; (exact P.out.get (g := w6.heap.size) (o := resO) (by simp)); exact size32; rfl; rfl; rfl; (have h := KW.row (vs := St.r ⟨t0, t1, t2, t3, t4, t5, t6, t7, t8, t9, t10, t11, t12, t13, t14, t15, t16, tp, tpc⟩) P.out); (generalize World.setRow _ (World.heap w6).size _ = w7 at h ⊢))
  generalize (World.heap w6).size = g1 at h ⊢
  clear P H6 w6
  have H7 := _root_.Go.Lib.hid h
  clear h
  go_wp2_with ((with_reducible apply wpList_load_at 32 Tryd.underlying32); rfl; exact H7.out.get (g := g1) (o := St.o ⟨t0, t1, t2, t3, t4, t5, t6, t7, t8, t9, t10, t11, t12, t13, t14, t15, t16, tp, tpc⟩) (by simp); rfl; exact size32)
  refine (P2.out _ (HT.out.below H7.out.bel HT.out.pos)).mono ?_
  rintro e w8 ⟨rfl, hb⟩
  have k := H7.out.grown hb
  clear hb H7
  have H8 := _root_.Go.Lib.hid k
  clear k
  go_wp2
  go_ret
  exact ⟨rfl, H8.out.bel⟩
theorem tquiet_calls (s : St) (w : World) (hT : Tab w) (hF : Wf s) : Calls Tryd.prog 6 #[.agg s.r] w fun e w' => e = .returned (.bool true) ∧ Below w.heap.size w w' := by
  by_cases hr : Right s
  · cases hi : (sPend s).2
    · refine tquiet_none s hr ?_ w hT
      unfold sPend pTell at hi ⊢
      cases h1 : pFirst (sHigh s) with
      | some n => rw [h1] at hi; cases hi
      | none =>
        rw [h1] at hi
        cases h2 : pFirst (sLow s) with
        | some n => rw [h2] at hi; cases hi
        | none => rfl
    · rcases quiet_plain s hr hF hi with h | h | h | h | h | h
      · exact tquiet_11 s hr hi h w hT
      · exact tquiet_3 s hr hi h w hT
      · exact tquiet_7 s hr hi h w hT
      · exact tquiet_9 s hr hi h w hT
      · exact tquiet_1 s hr hi h w hT
      · exact tquiet_5 s hr hi h w hT
  · exact tquiet_wrong s hr w hT
end Go.Proofs.YtkebphpfedgokaaDoor
